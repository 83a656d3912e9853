/-
  Part 4 of the proof: an evaluator of programs, its soundness, and what functions of this program compute.
-/
import Derived.Test.YtmcjkemalibacaaGreatK3
set_option linter.all false
set_option maxRecDepth 20000
set_option maxHeartbeats 40000000
section
namespace Go.Ab
open Classical
variable [Ext]
def AT (ops:Array Oper) (acc:Array Nat):Prop :=
 ∀j o,j<acc.size→ops[j]? = some o→∀k,(acc.getD j 0).testBit k=true→∃e∈o.after,Region.binds .any e=true∧(e.on=k∨(acc.getD e.on 0).testBit k=true)
theorem HO (acc:Array Nat) (k:Nat):∀(l:List Edge) (s:Nat),(l.foldl (fun s e=>if Region.binds .any e=true then s ||| 2 ^ e.on ||| acc.getD e.on 0 else s) s).testBit k=true →
 s.testBit k=true∨∃e∈l,Region.binds .any e=true∧(e.on=k∨(acc.getD e.on 0).testBit k=true)
 | [],s,h=>.inl h
 | e :: l,s,h=>by
   simp only[List.foldl_cons] at h;rcases HO acc k l _ h with h|⟨e',yP,h⟩
   ·split at h
    ·rename_i hb;simp only[Nat.testBit_or,Bool.or_eq_true] at h;rcases h with (h|h)|h
     ·exact .inl h
     ·rw[Nat.testBit_two_pow] at h;exact .inr ⟨e,by simp,hb,.inl (by simpa using h)⟩
     ·exact .inr ⟨e,by simp,hb,.inr h⟩
    ·exact .inl h
   ·exact .inr ⟨e',by simp[yP],h⟩
theorem HP {α:Type} (n:Nat) (k:Nat→α):forced n k=k n:=by cases n<;>rfl
theorem AU (ops:Array Oper):∀(l:List Oper) (acc:Array Nat),(∀i o,l[i]? = some o→ops[acc.size+i]? = some o)→AT ops acc→AT ops (FQ l acc)
 | [],acc,_,h=>h
 | o :: l,acc,hl,h=>by
   unfold FQ;rw[HP];refine AU ops l _ (fun i o' ho'=>?_) ?_
   ·have:=hl (i+1) o' (by simpa using ho')
    simp only[Array.size_push];rw[← this];congr 1
    omega
   ·intro j oj hj hoj k hk;have qM:∀x,(acc.getD x 0).testBit k=true→((acc.push (UN acc o)).getD x 0).testBit k=true:=fun x hx=>by
     have aY:x<acc.size:=by
      rcases Nat.lt_or_ge x acc.size with h'|h'
      ·exact h'
      ·simp[Array.getElem?_eq_none h'] at hx
     simp only[Array.getD_eq_getD_getElem?,Array.getElem?_push_lt aY] at hx ⊢;simpa [aY] using hx
    rcases Nat.lt_or_ge j acc.size with aY|hge
    ·have hk':(acc.getD j 0).testBit k=true:=by
      simp only[Array.getD_eq_getD_getElem?,Array.getElem?_push_lt aY] at hk ⊢;simpa [aY] using hk
     obtain⟨e,he,hb,hor⟩:=h j oj aY hoj k hk'
     exact⟨e,he,hb,hor.imp id (qM _)⟩
    ·have hje:j=acc.size:=by simp only[Array.size_push] at hj;omega
     subst hje;have ho:=hl 0 o (by simp)
     rw[Nat.add_zero,hoj] at ho;cases ho
     have hk':(UN acc o).testBit k=true:=by simpa using hk
     rcases HO acc k _ 0 hk' with h0|⟨e,he,hb,hor⟩
     ·simp at h0
     ·exact⟨e,by simpa using he,hb,hor.imp id (qM _)⟩
theorem Qz {ops:Array Oper} {dy:List (Nat × Nat)} {b:Array Nat} {j:Nat} {oj:Oper}:∀(l:List Oper) (i0:Nat),Pb ops dy b j oj l i0=true→∀i oi,l[i]? = some oi→i0+i<j→(b.getD j 0).testBit (i0+i)=true∨(ZM oi=true∧ZM oj=true∧(sW ops oi oj=true∨((i0+i,j)∈dy∧HZ ops b (i0+i) oi j oj=true)))
 | [],_,_,i,oi,h,_=>by simp at h
 | o :: l,i0,h,i,oi,ho,aY=>by
   unfold Pb at h;simp only[Bool.and_eq_true,Bool.or_eq_true,decide_eq_true_eq] at h;cases i with
   | zero =>
     simp at ho
     subst ho;rcases h.1 with (h|h)|⟨⟨n1,n2⟩,h⟩
     ·omega
     ·exact .inl (by simpa using h)
     ·exact .inr ⟨n1,n2,h.imp id fun h=>⟨by simpa using h.1,by simpa using h.2⟩⟩
   | succ i =>
     have:=Qz l (i0+1) h.2 i oi (by simpa using ho) (by omega)
     rw[show i0+(i+1)=i0+1+i by omega]
     exact this
theorem Jc {ops:Array Oper} {dy:List (Nat × Nat)} {b:Array Nat}:∀(l:List Oper) (j0:Nat),IA ops dy b l j0=true→∀j oj,l[j]? = some oj →
 (∀e∈oj.after,Region.binds .any e=true→e.on<j0+j)∧Pb ops dy b (j0+j) oj ops.toList 0=true
 | [],_,_,j,oj,h=>by simp at h
 | o :: l,j0,h,j,oj,ho=>by
   unfold IA at h;simp only[Bool.and_eq_true] at h;obtain⟨⟨h1,h2⟩,h3⟩:=h
   cases j with
   | zero =>
     simp at ho
     subst ho;refine⟨fun e he hb=>?_,by simpa using h2⟩
     have:=List.all_eq_true.1 h1 e (by simpa using he)
     simpa [hb] using this
   | succ j =>
     have:=Jc l (j0+1) h3 j oj (by simpa using ho)
     rw[show j0+(j+1)=j0+1+j by omega]
     exact this
structure Ea (ops:Array Oper) (dy:List (Nat × Nat)) (b:Array Nat):Prop where
 aMx:AT ops b
 size:b.size=ops.size
 lt:∀j oj,ops[j]? = some oj→∀e∈oj.after,Region.binds .any e=true→e.on<j
 apart:∀i j oi oj,i<j→ops[i]? = some oi→ops[j]? = some oj→(b.getD j 0).testBit i=true∨(ZM oi=true∧ZM oj=true∧(sW ops oi oj=true∨((i,j)∈dy∧HZ ops b i oi j oj=true)))
theorem AW:∀(l:List Oper) (acc:Array Nat),(FQ l acc).size=acc.size+l.length
 | [],acc=>rfl
 | o :: l,acc=>by
   unfold FQ;rw[HP,AW l];simp
   omega
theorem QK {ops:Array Oper} {dy:List (Nat × Nat)} (h:Xt ops dy=true):∃b,Ea ops dy b:=by
 unfold Xt at h;refine⟨_,AU ops ops.toList #[] (fun i o ho=>by simpa using ho) (fun j o hj=>by simp at hj),by rw[AW];simp,fun j oj hoj=>?_,fun i j oi oj hij hoi hoj=>?_⟩
 ·have:=(Jc _ 0 h j oj (by simpa using hoj)).1
  simpa using this
 ·have:=(Jc _ 0 h j oj (by simpa using hoj)).2
  simp only[Nat.zero_add] at this;have:=Qz _ 0 this i oi (by simpa using hoi) (by omega)
  simpa using this
section
variable {P:Program} {call:Nat→List AV→Option AV} {ops:Array Oper} {nt:Nat} {Q:Exit→Act→World→Prop}
theorem QL {h0:Nat→Obj→Prop} {w0:World} {F:Hs} {ρ:Nat→Nat→Value} {st:St} {a:Act} {w:World} (S:kJ F h0 w0 nt ρ st a w) {o:Oper} {b:Bool} (h:gv ops st o.guard=some b):Region.wanted o (yielded ops a.tmps)=b:=by
 unfold gv at h;unfold Region.wanted;cases hg:o.guard with
 | none=>simp[hg] at h;subst h;rfl
 | some jw =>
   obtain⟨j,want⟩:=jw
   simp only[hg] at h;simp only
   cases hd:(ops[j]?).bind (·.dst) with
   | none =>
     simp[hd] at h
     subst h;simp[yielded,hd]
   | some d =>
     simp only[hd] at h;split at h
     ·rename_i x hx;have hr:=S.env d
      rw[hx] at hr;have hv:=iH hr
      rcases Nat.lt_or_ge d a.tmps.size with aY|hge
      ·have hv':a.tmps[d]? = some x:=by
        simp[aY] at hv ⊢
        exact hv
       simp only[yielded,hd,Option.bind_some,hv'];split at h
       ·simp only[Option.some.injEq] at h;rw[← h];simp
       ·simp only[Option.some.injEq] at h;subst h;rename_i gN;cases x<;>first|rfl|exact absurd rfl (gN _)
      ·have hn:a.tmps[d]? = none:=Array.getElem?_eq_none hge
       have hu:x=undef:=by simpa [hn] using hv.symm
       subst hu;simp[undef] at h
       subst h;simp[yielded,hd,hn]
     ·cases h
theorem XM {h0:Nat→Obj→Prop} {w0:World} {F:Hs} {ρ:Nat→Nat→Value} {st st':St} {a:Act} {w:World} {K:Act→World→Prop} (S:kJ F h0 w0 nt ρ st a w) (iX:pJ P call) {i:Nat} {o:Oper}
 (hi:ops[i]? = some o) (hd:∀d,o.dst=some d→d<nt) (h:cD P call ops o st=some st')
 (hK:∀nY a' w',kJ F h0 w0 nt nY st' a' w'→K a' w'):wpOp P ops Q i K a w:=by
 unfold wpOp;simp only[hi];unfold cD at h;cases hg:gv ops st o.guard with
 | none=>simp[hg] at h
 | some b =>
   rw[QL S hg];simp only[hg] at h;cases b with
   | true =>
     simp only[if_true] at h ⊢;cases he:dG P call o st with
     | none=>simp[he] at h
     | some e =>
       simp only[he,Option.map_some,Option.some.injEq] at h;subst h;exact .inl (Vh S iX he hd hK)
   | false =>
     simp only[Bool.false_eq_true,if_false,Option.some.injEq] at h ⊢;subst h;exact hK ρ _ w (S.put o.dst hd (.v _))
theorem KK {o:Oper} {a:Act} {w:World} {K:Act→World→Prop} (h:o.wp P a w K fun _ _ _=>False):∃a' w',K a' w':=by
 unfold Oper.wp at h;generalize (execOp a.eval o).run P w=r at h
 have hlet:¬LetsOut (fun _ _ _=>False):=by rintro⟨_,_,h⟩;exact h
 cases r with
 | ok n w' =>
   cases n<;>simp only[Oper.upon] at h<;>(try exact⟨_,_,h⟩)<;>(try exact h.elim)
   ·obtain⟨e,w2,fr,hR,_⟩:=h []
    cases e with
    | returned v=>exact⟨_,_,hR⟩
    | panicked c=>exact hR.elim
    | outgrown=>exact absurd hR hlet
   ·obtain⟨v,w2,hR,_⟩:=h default []
    exact⟨_,_,hR⟩
 | halt x w'=>cases x<;>simp only[Oper.upon] at h
def Valid (nt:Nat) (st:St):Prop:=∃(F:Hs) (h0:Nat→Obj→Prop) (w0:World) (ρ:Nat→Nat→Value) (a:Act) (w:World),kJ F h0 w0 nt ρ st a w
theorem Valid.ids {st:St} (h:Valid nt st):∀t,mH st.aP (st.env t):=by
 obtain⟨F,h0,w0,ρ,a,w,S⟩:=h
 exact fun t=>⟨ctx h0 w0 ρ st w,_,rfl,S.env t⟩
theorem Valid.hp {st:St} (h:Valid nt st):AP st:=by
 obtain⟨F,h0,w0,ρ,a,w,S⟩:=h
 intro s g cs he c hc;obtain⟨_,_,b,arr,T,_,_,_,Ay⟩:=S.sF s g _ he
 obtain⟨i,hi,rfl⟩:=List.getElem_of_mem hc
 have hl:=Ay.len
 exact⟨ctx h0 w0 ρ st w,arr.toList[i]'(by omega),rfl,Ay.rel i _ _ (by simp[hi]) (by simp)⟩
theorem Valid.step {st st':St} (h:Valid nt st) (iX:pJ P call) {o:Oper} (hd:∀d,o.dst=some d→d<nt) (he:cD P call ops o st=some st'):Valid nt st':=by
 obtain⟨F,h0,w0,ρ,a,w,S⟩:=h
 unfold cD at he;cases hg:gv ops st o.guard with
 | none=>simp[hg] at he
 | some b =>
   simp only[hg] at he;cases b with
   | true =>
     simp only[if_true] at he;cases hee:dG P call o st with
     | none=>simp[hee] at he
     | some e =>
       simp only[hee,Option.map_some,Option.some.injEq] at he;subst he;obtain⟨a',w',nY,S'⟩:=KK (Vh (Q:=fun _ _ _=>False) (K:=fun a' w'=>∃nY,kJ F h0 w0 nt nY (e.apply st) a' w') S iX hee hd (fun nY a' w' h=>⟨nY,h⟩))
       exact⟨F,h0,w0,nY,a',w',S'⟩
   | false =>
     simp only[Bool.false_eq_true,if_false,Option.some.injEq] at he;subst he;exact⟨F,h0,w0,ρ,_,w,S.put o.dst hd (.v _)⟩
theorem wB {b:Array Nat} {i a:Nat} {aS:List Nat} (ha:a∈aS):∀(l:List Oper) (m0:Nat),wU b i aS l m0=true→∀m o,l[m]? = some o→o.dst=some a→(b.getD i 0).testBit (m0+m)=true
 | [],_,_,m,o,h,_=>by simp at h
 | o' :: l,m0,h,m,o,ho,hd=>by
   unfold wU at h;simp only[Bool.and_eq_true,Bool.or_eq_true] at h;cases m with
   | zero =>
     simp at ho
     subst ho;rcases h.1 with h|h
     ·rw[hd] at h;simp[ha] at h
     ·simpa using h
   | succ m =>
     have:=wB ha l (m0+1) h.2 m o (by simpa using ho) hd
     rw[show m0+(m+1)=m0+1+m by omega]
     exact this
theorem qF.mem {s:St}:∀ {l:List (Nat × Nat)},qF ops s l→∀p∈l,Xs ops s p
 | p :: l,h,q,hq=>by
   rcases List.mem_cons.1 hq with rfl|hq
   ·exact h.1
   ·exact h.2.mem q hq
structure Left (ops:Array Oper) (lW:Array Bool) (l:List Nat):Prop where
 size:lW.size=ops.size
 mem:∀j,j∈l↔j<ops.size∧lW.getD j true=false
 sorted:l.Pairwise (· < ·)
 closed:∀j o,ops[j]? = some o→lW.getD j false=true→∀e∈o.after,Region.binds .any e=true→lW.getD e.on false=true
theorem Ea.aGB {dy:List (Nat × Nat)} {b:Array Nat} (D:Ea ops dy b):∀(j:Nat) o,ops[j]? = some o→∀k,(b.getD j 0).testBit k=true→k<j:=by
 intro j;induction j using Nat.strongRecOn with
 | _ j ih =>
   intro o ho k hk;have hj:j<ops.size:=(Array.getElem?_eq_some_iff.1 ho).1
   obtain⟨e,he,hb,hor⟩:=D.aMx j o (by rw[D.size];exact hj) ho k hk
   have aY:=D.lt j o ho e he hb
   rcases hor with rfl|hk'
   ·exact aY
   ·have hes:e.on<ops.size:=by omega
    have:=ih e.on aY _ (Array.getElem?_eq_getElem hes) k hk'
    omega
theorem HQ {lW:Array Bool} {j:Nat} (hj:j<lW.size):lW.getD j true=lW.getD j false:=by simp[hj]
theorem QM {dy:List (Nat × Nat)} {b:Array Nat} (D:Ea ops dy b) {lW:Array Bool} {l:List Nat} (L:Left ops lW l):∀(j:Nat) o,ops[j]? = some o→(∀e∈o.after,Region.binds .any e=true→lW.getD e.on false=true) →
 ∀k,(b.getD j 0).testBit k=true→lW.getD k false=true:=by
 intro j;induction j using Nat.strongRecOn with
 | _ j ih =>
   intro o ho Nv k hk;have hj:j<ops.size:=(Array.getElem?_eq_some_iff.1 ho).1
   obtain⟨e,he,hb,hor⟩:=D.aMx j o (by rw[D.size];exact hj) ho k hk
   have hle:=Nv e he hb
   rcases hor with rfl|hk'
   ·exact hle
   ·have aY:=D.lt j o ho e he hb
    have hes:e.on<ops.size:=by omega
    exact ih e.on aY _ (Array.getElem?_eq_getElem hes) (L.closed e.on _ (Array.getElem?_eq_getElem hes) hle) k hk'
end
end Go.Ab
end
section
namespace Go.Ab
open Classical
variable [Ext]
section
variable {P:Program} {call:Nat→List AV→Option AV} {inl:Nat→List AV→St→Option (AV × St)} {bi:Bool} {nt:Nat} {h0:Nat→Obj→Prop} {w0:World} {F:Hs}
theorem ED {ops:Array Oper} {id:Nat} {draw:Bool} (h:codeOk bi nt (.region id ops draw)=true):(∀(j:Nat) o,ops[j]? = some o→∀d,o.dst=some d→d<nt)∧(draw=true→Xt ops (if bi=true then Ext.dyn id ops.size (sK ops) else [])=true):=by
 simp only[codeOk,Bool.and_eq_true,Bool.or_eq_true,Bool.not_eq_true'] at h;refine⟨fun j o ho d hd=>?_,fun hdr=>h.2.resolve_left (by rw[hdr];simp)⟩
 have:=Array.all_eq_true_iff_forall_mem.1 h.1 o (Array.mem_of_getElem? ho)
 simpa [hd] using this
def Vl (P:Program) (inl:Nat→List AV→St→Option (AV × St)):Prop :=
 ∀g xs st r s',inl g xs st=some (r,s')→xU P g ∧
  ∀(F:Hs) (h0:Nat→Obj→Prop) (w0:World) (nt:Nat) (ρ:Nat→Nat→Value) (a:Act) (w:World) (vs:Array Value) (K:Value→World→Prop),kJ F h0 w0 nt ρ st a w→lE (ctx h0 w0 ρ st w) xs vs.toList →
   (∀nY w' v,kJ F h0 w0 nt nY (st.back s') a w'→cS (ctx h0 w0 nY (st.back s') w') r v→K v w')→Calls P g vs w fun en w'=>∃v,en=.returned v∧K v w'
theorem XN {o:Oper} {g:Nat} {args:List Operand} (h:Gt o=some (g,args)):∃c,o.op=.call c∧c.callee=.value (.func g)∧c.args.toList=args:=by
 obtain⟨dst,op,type,pos,after,guard⟩:=o
 unfold Gt at h;split at h
 ·rename_i g' args' rZ qH
  split at h
  ·simp only[Option.some.injEq,Prod.mk.injEq] at h;obtain⟨rfl,rfl⟩:=h
   exact⟨_,qH,rfl,rfl⟩
  ·cases h
 ·cases h
theorem Vm {ops:Array Oper} {Q:Exit→Act→World→Prop} {ρ:Nat→Nat→Value} {st st':St} {a:Act} {w:World} {K:Act→World→Prop} (S:kJ F h0 w0 nt ρ st a w) (iX:pJ P call) (Lq:Vl P inl) {i:Nat} {o:Oper}
 (hi:ops[i]? = some o) (hd:∀d,o.dst=some d→d<nt) (h:gS P bi call inl ops o st=some st')
 (hK:∀nY a' w',kJ F h0 w0 nt nY st' a' w'→K a' w'):wpOp P ops Q i K a w:=by
 unfold gS at h;split at h
 ·rename_i g args hg;have B8:Gt o=some (g,args):=by
   split at hg
   ·exact hg
   ·cases hg
  obtain⟨c,qH,hcal,vE⟩:=XN B8
  unfold wpOp;simp only[hi];cases hgv:gv ops st o.guard with
  | none=>simp[hgv] at h
  | some b =>
    rw[QL S hgv];simp only[hgv] at h;cases b with
    | true =>
      simp only[if_true] at h ⊢;cases he:inl g (args.map st.ev) st with
      | none=>simp[he] at h
      | some r =>
        obtain⟨x,s'⟩:=r
        simp only[he,Option.map_some,Option.some.injEq] at h;subst h;refine .inl ?_
        obtain⟨⟨fn,aGw,Z3,Z4⟩,XD⟩:=Lq g _ st x s' he
        have hnb:fn.body.isNone=false:=by
         cases hb:fn.body<;>simp[hb] at Z4 ⊢
        have Sj : ¬ fn.name = "runtime.NumGoroutine" := by simpa using Z3
        have hn2:¬fn.body=none:=by intro h;simp[h] at hnb
        have qD:(execOp a.eval o).run P w=.ok (.enter g (c.args.map a.eval)) w:=by
         simp[execOp,qH,resolve,hcal,Act.eval,Deferred.ofValue,invoke,callFunc,aGw,Sj,hn2]
        have eY:lE (ctx h0 w0 ρ st w) (args.map st.ev) (c.args.map a.eval).toList:=by
         rw[← vE];simpa using lE.map c.args.toList _ _ fun p _=>S.ev p
        unfold Oper.wp;rw[qD,Oper.upon_enter];refine (XD F h0 w0 nt ρ a w (c.args.map a.eval) (fun v w'=>K (a.put o.dst v) w') S eY fun nY w' v S' hv=>?_).mono ?_
        ·exact hK nY _ w' (S'.put o.dst hd hv)
        ·rintro en w' ⟨v,rfl,hk⟩
         exact hk
    | false =>
      simp only[Bool.false_eq_true,if_false,Option.some.injEq] at h ⊢;subst h;exact hK ρ _ w (S.put o.dst hd (.v _))
 ·exact XM S iX hi hd h hK
theorem AX {ops:Array Oper} (iX:pJ P call) (Lq:Vl P inl) (lD:∀(j:Nat) o,ops[j]? = some o→∀d,o.dst=some d→d<nt) {Q:Exit→Act→World→Prop} {sf:St}
 (hQ:∀nY a' w',kJ F h0 w0 nt nY sf a' w'→Q .normal a' w'):∀(l:List Oper) (k:Nat) (st:St) (ρ:Nat→Nat→Value) (a:Act) (w:World),(∀(j:Nat) o,l[j]? = some o→ops[k+j]? = some o)→kJ F h0 w0 nt ρ st a w →
  mJ P bi call inl ops l st=some sf→wpOps P ops Q (List.range' k l.length) a w
 | [],k,st,ρ,a,w,hl,S,h=>by
   simp only[mJ,Option.some.injEq] at h;subst h;exact hQ ρ a w S
 | o :: l,k,st,ρ,a,w,hl,S,h=>by
   rw[List.length_cons,List.range'_succ,wpOps_cons];have hi:ops[k]? = some o:=hl 0 o rfl
   unfold mJ at h;cases h1:gS P bi call inl ops o st with
   | none=>simp[h1,cH] at h
   | some s1 =>
     simp only[h1,cH] at h;exact Vm S iX Lq hi (lD k o hi) h1 fun nY a' w' S'=>AX iX Lq lD hQ l (k+1) s1 nY a' w' (fun j o' hj=>by
      have:=hl (j+1) o' (by simpa using hj)
      rw[show k+1+j=k+(j+1) by omega];exact this) S' h
noncomputable def Ny (P:Program) (bi:Bool) (call:Nat→List AV→Option AV) (inl:Nat→List AV→St→Option (AV × St)) (ops:Array Oper):List Nat→St→Option St
 | [],st=>some st
 | i :: r,st =>
   match ops[i]? with
   | some o=>cH (gS P bi call inl ops o st) (Ny P bi call inl ops r)
   | none=>Ny P bi call inl ops r st
theorem Vn {ops:Array Oper}:∀(l:List Oper) (k:Nat) (st:St),(∀j,l[j]? = ops[k+j]?∨l.length≤j)→mJ P bi call inl ops l st=Ny P bi call inl ops (List.range' k l.length) st
 | [],k,st,h=>rfl
 | o :: l,k,st,h=>by
   have h0:=(h 0).resolve_right (by simp)
   simp only[List.getElem?_cons_zero,Nat.add_zero] at h0;simp only[mJ,List.length_cons,List.range'_succ,Ny,← h0];cases gS P bi call inl ops o st with
   | none=>rfl
   | some s =>
     simp only[cH];exact Vn l (k+1) s fun j=>by
      rcases h (j+1) with h|h
      ·left
       rw[show k+1+j=k+(j+1) by omega,← h]
       simp
      ·right
       simpa using h
theorem AY {ops:Array Oper} {o:Oper} {st s:St} {a:Nat} (h:cD P call ops o st=some s) (hd:o.dst≠some a):s.env a=st.env a:=by
 rw[Gk] at h;cases he:sA P call ops o st with
 | none=>simp[he] at h
 | some e =>
   simp only[he,Option.map_some,Option.some.injEq] at h;subst h;rw[oO,(oX he).1,if_neg hd]
theorem aAg {o:Oper} (h:ZM o=true):Gt o=none:=by simpa [ZM] using h
theorem QN {ops:Array Oper} {o:Oper} (h:ZM o=true) (st:St):gS P bi call inl ops o st=cD P call ops o st:=by
 unfold gS;rw[aAg h];cases bi<;>rfl
theorem H8 {ops:Array Oper} {o:Oper} {st s:St} {a:Nat} (h:gS P bi call inl ops o st=some s) (hd:o.dst≠some a):s.env a=st.env a:=by
 unfold gS at h;have hput:∀(s0:St) (x:AV),(s0.put o.dst x).env a=s0.env a:=fun s0 x=>by
  cases hod:o.dst with
  | none=>rfl
  | some d =>
    simp only[St.put];rw[if_neg];rintro rfl
    exact hd hod
 split at h
 ·split at h
  ·split at h
   ·simp only[Option.map_eq_some_iff] at h;obtain⟨r,_,rfl⟩:=h
    exact hput _ _
   ·simp only[Option.some.injEq] at h;subst h;exact hput _ _
  ·cases h
 ·exact AY h hd
theorem Ra {ops:Array Oper} {a:Nat}:∀(l:List Nat) {st sf:St},(∀m∈l,∀o,ops[m]? = some o→o.dst≠some a)→Ny P bi call inl ops l st=some sf→sf.env a=st.env a
 | [],st,sf,_,h=>by
   simp only[Ny,Option.some.injEq] at h;subst h;rfl
 | i :: l,st,sf,hd,h=>by
   unfold Ny at h;cases hi:ops[i]? with
   | none=>simp only[hi] at h;exact Ra l (fun m hm=>hd m (by simp[hm])) h
   | some o =>
     simp only[hi] at h;cases h1:gS P bi call inl ops o st with
     | none=>simp[h1,cH] at h
     | some s1 =>
       simp only[h1,cH] at h;rw[Ra l (fun m hm=>hd m (by simp[hm])) h,H8 h1 (hd i (by simp) o hi)]
def u7 (ops:Array Oper) (sf:St) (rest:List Nat) (k:Nat) (ok oi:Oper):Prop :=
 sW ops ok oi=true∨∃aS bs,gV ok=some aS∧gV oi=some bs∧Oper.apart ops ok oi=true∧My sf aS bs ∧
  (∀m∈rest,k≤m→∀o,ops[m]? = some o→∀a∈aS,o.dst≠some a)∧(∀m∈rest,∀o,ops[m]? = some o→∀b∈bs,o.dst≠some b)
theorem AZ {ops:Array Oper} (iX:pJ P call) (lD:∀(j:Nat) o,ops[j]? = some o→∀d,o.dst=some d→d<nt) {i:Nat} {oi:Oper} (hi:ops[i]? = some oi) (l2:List Nat):∀(l1:List Nat) (st sf:St),Valid nt st→(l1++i :: l2).Pairwise (· < ·) →
 (∀k∈l1,∃ok,ops[k]? = some ok∧ZM ok=true∧ZM oi=true∧u7 ops sf (l1++i :: l2) k ok oi)→Ny P bi call inl ops (l1++i :: l2) st=some sf→Ny P bi call inl ops (i :: (l1++l2)) st=some sf
 | [],st,sf,_,_,_,h=>h
 | k :: l1,st,sf,hv,hs,nP,h=>by
   obtain⟨ok,oR,Sj,hn2,hak⟩:=nP k (by simp)
   have e1:=fun st=>QN (P:=P) (bi:=bi) (call:=call) (inl:=inl) (ops:=ops) Sj st
   have e2:=fun st=>QN (P:=P) (bi:=bi) (call:=call) (inl:=inl) (ops:=ops) hn2 st
   simp only[List.cons_append,Ny,oR,e1] at h;cases h1:cD P call ops ok st with
   | none=>simp[h1,cH] at h
   | some s1 =>
     simp only[h1,cH] at h;rw[List.cons_append,List.pairwise_cons] at hs;have ih:=AZ iX lD hi l2 l1 s1 sf (hv.step iX (lD k ok oR) h1) hs.2 (fun k' hk=>by
      obtain⟨ok',h1,m1,m2,h2⟩:=nP k' (by simp[hk])
      refine⟨ok',h1,m1,m2,h2.imp id ?_⟩
      rintro⟨a,a',e1,e2,e3,e4,e5,e6⟩
      exact⟨a,a',e1,e2,e3,e4,fun m hm=>e5 m (by simp only[List.cons_append];exact List.mem_cons_of_mem _ hm),fun m hm=>e6 m (by simp only[List.cons_append];exact List.mem_cons_of_mem _ hm)⟩) h
     have ih0:=ih
     simp only[Ny,hi,e2] at ih;cases h2:cD P call ops oi s1 with
     | none=>simp[h2,cH] at ih
     | some s2 =>
       simp only[h2,cH] at ih;have hcomm:∃s3,cD P call ops oi st=some s3∧cD P call ops ok s3=some s2:=by
        rcases hak with hak|⟨aS,bs,Y6,e2',e3,e4,e5,e6⟩
        ·exact aCQ hv.hp hak hv.ids h1 h2
        ·have w1:∀m∈i :: (l1++l2),m∈(k :: l1)++i :: l2∧k≤m:=fun m hm=>by
          have hm':m∈l1++i :: l2:=by
           simp only[List.mem_cons,List.mem_append] at hm ⊢;rcases hm with h|h|h
           ·exact .inr (.inl h)
           ·exact .inl h
           ·exact .inr (.inr h)
          exact⟨by simp only[List.cons_append];exact List.mem_cons_of_mem _ hm',Nat.le_of_lt (hs.1 m hm')⟩
         have f1:∀a∈aS,sf.env a=st.env a:=fun a ha=>by
          rw[Ra _ (fun m hm o ho=>e5 m (w1 m hm).1 (w1 m hm).2 o ho a ha) ih0,AY h1 (e5 k (by simp) (Nat.le_refl _) ok oR a ha)]
         have f2:∀b∈bs,sf.env b=st.env b:=fun b hb=>by
          rw[Ra _ (fun m hm o ho=>e6 m (w1 m hm).1 o ho b hb) ih0,AY h1 (e6 k (by simp) ok oR b hb)]
         have e4':My st aS bs:=fun a ha b hb=>by
          have:=e4 a ha b hb
          rw[f1 a ha,f2 b hb] at this;exact this
         exact aAe hv.ids Y6 e2' e3 e4' h1 h2
       obtain⟨s3,h3,h4⟩:=hcomm
       simp only[List.cons_append,Ny,hi,oR,e1,e2,h3,h4,cH];exact ih
theorem BA {ops:Array Oper} {Q:Exit→Act→World→Prop} (iX:pJ P call) (Lq:Vl P inl) (lD:∀(j:Nat) o,ops[j]? = some o→∀d,o.dst=some d→d<nt) {dy:List (Nat × Nat)} {b:Array Nat} (D:Ea ops dy b) {sf:St} (hsw:qF ops sf dy)
 (hQ:∀nY a' w',kJ F h0 w0 nt nY sf a' w'→Q .normal a' w'):∀(f:Nat) (l:List Nat) (lW:Array Bool) (st:St) (ρ:Nat→Nat→Value) (a:Act) (w:World),l.length=f→Left ops lW l→kJ F h0 w0 nt ρ st a w →
 Ny P bi call inl ops l st=some sf→wpAny P .any ops Q f lW a w
 | 0,l,lW,st,ρ,a,w,hf,L,S,he=>by
   have hl:=List.length_eq_zero_iff.1 hf
   subst hl;simp only[Ny,Option.some.injEq] at he;subst he;refine⟨?_,hQ ρ a w S⟩
   cases hr:Region.ready .any ops lW with
   | nil=>rfl
   | cons x xs =>
     have hx:x∈Region.ready .any ops lW:=by rw[hr];simp
     obtain⟨h1,o,ho,_⟩:=mem_ready.1 hx
     have:=(L.mem x).2 ⟨(Array.getElem?_eq_some_iff.1 ho).1,h1⟩
     simp at this
 | f+1,l,lW,st,ρ,a,w,hf,L,S,he=>by
   refine⟨fun hr=>?_,fun i hi=>?_⟩
   ·exfalso
    cases l with
    | nil=>simp at hf
    | cons i l =>
      have hil:=(L.mem i).1 (by simp)
      have:i∈Region.ready .any ops lW:=mem_ready.2 ⟨hil.2,ops[i],Array.getElem?_eq_getElem hil.1,fun e yP hb=>by
       have aY:=D.lt i _ (Array.getElem?_eq_getElem hil.1) e yP hb
       cases hle:lW.getD e.on false with
       | true=>rfl
       | false =>
         have hsz:e.on<lW.size:=by rw[L.size];omega
         have hin:=(L.mem e.on).2 ⟨by omega,by rw[HQ hsz];exact hle⟩
         rcases List.mem_cons.1 hin with h|h
         ·omega
         ·have:=(List.pairwise_cons.1 L.sorted).1 _ h
          omega⟩
      rw[hr] at this;simp at this
   ·obtain⟨h1,oi,hoi,Nv⟩:=mem_ready.1 hi
    have hilt:i<ops.size:=(Array.getElem?_eq_some_iff.1 hoi).1
    have hil:=(L.mem i).2 ⟨hilt,h1⟩
    obtain⟨l1,l2,rfl⟩:=List.append_of_mem hil
    have hs:=L.sorted
    rw[List.pairwise_append] at hs;obtain⟨s1,s2,s3⟩:=hs
    have hno:∀m,(b.getD i 0).testBit m=true→m ∉ l1++i :: l2:=fun m h hm=>by
     have hkm:=(L.mem m).1 hm
     have:=QM D L i oi hoi Nv m h
     rw[← HQ (by rw[L.size];exact hkm.1),hkm.2] at this
     cases this
    have nP:∀k∈l1,∃ok,ops[k]? = some ok∧ZM ok=true∧ZM oi=true∧u7 ops sf (l1++i :: l2) k ok oi:=fun k hk=>by
     have hki:=s3 k hk i (by simp)
     have hkm:=(L.mem k).1 (by simp[hk])
     refine⟨ops[k],Array.getElem?_eq_getElem hkm.1, ?_⟩
     rcases D.apart k i _ oi hki (Array.getElem?_eq_getElem hkm.1) hoi with h|⟨n1,n2,h|⟨hm,h⟩⟩
     ·exact absurd (by simp[hk]) (hno k h)
     ·exact⟨n1,n2,.inl h⟩
     ·refine⟨n1,n2,.inr ?_⟩
      have hsa:=hsw.mem _ hm
      unfold Xs at hsa;simp only[Array.getElem?_eq_getElem hkm.1,hoi,Option.bind_some] at hsa;unfold HZ at h;cases ha:gV ops[k] with
      | none=>rw[ha] at h;cases h
      | some aS =>
        cases ha':gV oi with
        | none=>rw[ha,ha'] at h;cases h
        | some bs =>
          rw[ha,ha'] at hsa h;simp only[Bool.and_eq_true] at h hsa;refine⟨aS,bs,rfl,rfl,h.1.1,hsa,fun m hm hkm' o ho a haa hd=>?_,fun m hm o ho b wO hd=>?_⟩
          ·have hb:=wB haa _ 0 h.1.2 m o (by simpa using ho) hd
           rw[Nat.zero_add] at hb;have aY:=D.aGB k _ (Array.getElem?_eq_getElem hkm.1) m hb
           omega
          ·have hb:=wB wO _ 0 h.2 m o (by simpa using ho) hd
           rw[Nat.zero_add] at hb;exact hno m hb hm
    have yP:=AZ iX lD hoi l2 l1 st sf ⟨F,h0,w0,ρ,a,w,S⟩ L.sorted nP he
    simp only[Ny,hoi] at yP
    cases h2:gS P bi call inl ops oi st with
    | none=>simp[h2,cH] at yP
    | some s2' =>
      simp only[h2,cH] at yP
      refine Vm S iX Lq hoi (lD i oi hoi) h2 fun nY a' w' S'=>?_
      refine BA iX Lq lD D hsw hQ f (l1++l2) _ s2' nY a' w' (by simp at hf ⊢;omega) ⟨by simp[L.size],fun j=>?_, ?_,fun j o ho hlj e he'' hb=>?_⟩ S' yP
      ·have hm:=L.mem j
       simp only[List.mem_append,List.mem_cons] at hm ⊢;by_cases hji:j=i
       ·subst hji;have Sj:j ∉ l1:=fun h=>by have:=s3 j h j (by simp);omega
        have hn2:j ∉ l2:=fun h=>by have:=(List.pairwise_cons.1 s2).1 j h;omega
        have hset:(lW.setIfInBounds j true).getD j true=true:=by
         have:j<lW.size:=by rw[L.size];exact hilt
         simp[this]
        simp[Sj,hn2,hset]
       ·rw[getD_set_ne true (Ne.symm hji)];simpa [hji] using hm
      ·rw[List.pairwise_append];exact⟨s1,(List.pairwise_cons.1 s2).2,fun x hx y hy=>s3 x hx y (by simp[hy])⟩
      ·by_cases hji:i=j
       ·subst hji;rw[hoi] at ho;cases ho
        exact getD_set_true (Nv e he'' hb)
       ·rw[getD_set_ne false hji] at hlj;exact getD_set_true (L.closed j o ho hlj e he'' hb)
theorem KL (hm:P.follows .mixedOrders=true) (iX:pJ P call) (Lq:Vl P inl) {ops:Array Oper} {id:Nat} {draw:Bool} (oR:codeOk bi nt (.region id ops draw)=true) {Q:Exit→Act→World→Prop} {st sf:St} {ρ:Nat→Nat→Value} {a:Act} {w:World}
 (S:kJ F h0 w0 nt ρ st a w) (hsw:bi=true→qF ops sf (Ext.dyn id ops.size (sK ops))) (h:mJ P bi call inl ops ops.toList st=some sf) (hQ:∀nY a' w',kJ F h0 w0 nt nY sf a' w'→Q .normal a' w'):(Code.region id ops draw).wp P Q a w:=by
 obtain⟨lD,hdraw⟩:=ED oR
 cases draw with
 | false =>
   refine wp_region ?_
   rw[List.range_eq_range'];have:=AX iX Lq lD hQ ops.toList 0 st ρ a w (fun j o hj=>by simpa using hj) S h
   simpa using this
 | true =>
   rw[Vn ops.toList 0 st (fun j=>.inl (by simp))] at h
   obtain⟨b,D⟩:=QK (hdraw rfl)
   refine wp_region_any hm ?_
   have hg:w.grownBy { w with drawn:=w.drawn+1 } none:=⟨rfl,rfl,rfl,Nat.le_refl _,fun _ _ _=>rfl⟩
   have hsw':qF ops sf (if bi=true then Ext.dyn id ops.size (sK ops) else []):=by
    cases bi with
    | true=>exact hsw rfl
    | false=>exact trivial
   refine BA iX Lq lD D hsw' hQ ops.size (List.range' 0 ops.size) _ st ρ a _ (by simp) ⟨by simp,fun j=>?_, ?_,fun j o ho hl=>?_⟩ (S.grow hg).1 (by simpa using h)
   ·rw[← List.range_eq_range',List.mem_range];constructor
    ·intro hj;exact⟨hj,by simp[hj]⟩
    ·exact fun h=>h.1
   ·rw[← List.range_eq_range'];exact List.pairwise_lt_range
   ·simp[Array.getD_eq_getD_getElem?,Array.getElem?_replicate] at hl
    split at hl<;>simp at hl
theorem Fz {p:Nat→Prop} (h:∃n,p n):∃n,p n∧∀m,p m→n≤m:=by
 obtain⟨n,hn⟩:=h
 induction n using Nat.strongRecOn with
 | _ n ih =>
   by_cases hl:∃m,m<n∧p m
   ·obtain⟨m,hm,hp⟩:=hl
    exact ih m hm hp
   ·exact⟨n,hn,fun m hm=>by
     rcases Nat.lt_or_ge m n with h|h
     ·exact absurd ⟨m,h,hm⟩ hl
     ·exact h⟩
noncomputable def BB (p:Nat→Prop):Nat:=if h:∃n,p n then Classical.choose (Fz h) else 0
theorem Vo {p:Nat→Prop} (h:∃n,p n):p (BB p)∧∀m,p m→BB p≤m:=by
 unfold BB;rw[dif_pos h];exact Classical.choose_spec (Fz h)
def Ex.to:Ex→Exit
 | .normal=>.normal
 | .exit id=>.exit id
 | .ret=>.ret
theorem oP (hm:P.follows .mixedOrders=true) (iX:pJ P call) (Lq:Vl P inl) (n:Nat):∀(c:Code) (st sf:St) (ex:Ex) (ρ:Nat→Nat→Value) (a:Act) (w:World) (Q:Exit→Act→World→Prop),codeOk bi nt c=true →
 kJ F h0 w0 nt ρ st a w→tY P bi call inl n c st=some (ex,sf)→(∀nY a' w',kJ F h0 w0 nt nY sf a' w'→Q ex.to a' w')→c.wp P Q a w:=by
 induction n using Nat.strongRecOn with
 | _ n ih =>
 have oP:∀m,m<n→∀(c:Code) (st sf:St) (ex:Ex) (ρ:Nat→Nat→Value) (a:Act) (w:World) (Q:Exit→Act→World→Prop),codeOk bi nt c=true →
  kJ F h0 w0 nt ρ st a w→tY P bi call inl m c st=some (ex,sf)→(∀nY a' w',kJ F h0 w0 nt nY sf a' w'→Q ex.to a' w')→c.wp P Q a w:=ih
 clear ih
 intro c st sf ex ρ a w Q oR S h hQ;cases n with
 | zero=>simp[tY] at h
 | succ n =>
   cases c<;>simp only[tY] at h
   case skip =>
    simp only[Option.some.injEq,Prod.mk.injEq] at h;obtain⟨rfl,rfl⟩:=h
    exact wp_skip (hQ ρ a w S)
   case region id ops draw =>
    cases h1:mJ P bi call inl ops ops.toList st with
    | none=>simp[h1,cH] at h
    | some s1 =>
      simp only[h1,cH] at h;split at h
      ·cases h
      ·rename_i hsw;simp only[Option.some.injEq,Prod.mk.injEq] at h;obtain⟨rfl,rfl⟩:=h
       exact KL hm iX Lq oR S (fun hb=>Classical.byContradiction fun hc=>hsw ⟨hb,hc⟩) h1 hQ
   case seq x y =>
    simp only[codeOk,Bool.and_eq_true] at oR;cases h1:tY P bi call inl n x st with
    | none=>simp[h1,cH] at h
    | some r =>
      obtain⟨e1,s1⟩:=r
      simp only[h1,cH] at h;refine wp_seq (oP n (by omega) x st s1 e1 ρ a w _ oR.1 S h1 fun nY a' w' S'=>?_)
      cases e1 with
      | normal=>exact oP n (by omega) y s1 sf ex nY a' w' Q oR.2 S' h hQ
      | exit id =>
        simp only[Option.some.injEq,Prod.mk.injEq] at h;obtain⟨rfl,rfl⟩:=h
        exact hQ nY a' w' S'
      | ret =>
        simp only[Option.some.injEq,Prod.mk.injEq] at h;obtain⟨rfl,rfl⟩:=h
        exact hQ nY a' w' S'
   case cond c x y =>
    simp only[codeOk,Bool.and_eq_true] at oR;split at h
    ·rename_i t ht;have hr:=S.ev c
     rw[ht] at hr;have hv:=iH hr
     refine wp_cond (t:=t) hv ?_
     cases t with
     | true=>exact oP n (by omega) x st sf ex ρ a w Q oR.1 S (by simpa using h) hQ
     | false=>exact oP n (by omega) y st sf ex ρ a w Q oR.2 S (by simpa using h) hQ
    ·cases h
   case block id b =>
    simp only[codeOk] at oR;cases h1:tY P bi call inl n b st with
    | none=>simp[h1,cH] at h
    | some r =>
      obtain⟨e1,s1⟩:=r
      simp only[h1,cH,Option.some.injEq,Prod.mk.injEq] at h;obtain⟨rfl,rfl⟩:=h
      refine wp_block (oP n (by omega) b st s1 e1 ρ a w _ oR S h1 fun nY a' w' S'=>?_)
      have:=hQ nY a' w' S'
      cases e1 with
      | normal=>exact this
      | exit i =>
        simp only[Ex.inBlock] at this;simp only[Ex.to,Exit.inBlock];by_cases hi:i=id
        ·rw[if_pos hi] at this ⊢;exact this
        ·rw[if_neg hi] at this ⊢;exact this
      | ret=>exact this
   case loop b =>
    have hok':=oR
    simp only[codeOk] at oR;let p:Act→World→Nat→Prop:=fun a w m=>m≤n+1∧∃st ρ,kJ F h0 w0 nt ρ st a w∧tY P bi call inl m (.loop b) st=some (ex,sf)
    refine wp_loop (fun a w=>∃m,p a w m) (fun a w=>BB (p a w)) ⟨n+1,Nat.le_refl _,st,ρ,S,h⟩ fun a w hI=>?_
    obtain⟨⟨hle,st1,ρ1,S1,h1⟩,_⟩:=Vo hI
    generalize BB (p a w)=m at h1 hle
    cases m with
    | zero=>simp[tY] at h1
    | succ m =>
      simp only[tY] at h1;cases h2:tY P bi call inl m b st1 with
      | none=>simp[h2,cH] at h1
      | some r =>
        obtain⟨e1,s1⟩:=r
        simp only[h2,cH] at h1;have hmn:m≤n:=by omega
        refine oP m (by omega) b st1 s1 e1 ρ1 a w _ oR S1 h2 fun nY a' w' S'=>?_
        cases e1 with
        | normal =>
          have hp:p a' w' m:=⟨by omega,s1,nY,S',h1⟩
          exact⟨⟨m,hp⟩,Nat.lt_succ_of_le ((Vo ⟨m,hp⟩).2 m hp)⟩
        | exit id =>
          simp only[Option.some.injEq,Prod.mk.injEq] at h1;obtain⟨rfl,rfl⟩:=h1
          exact hQ nY a' w' S'
        | ret =>
          simp only[Option.some.injEq,Prod.mk.injEq] at h1;obtain⟨rfl,rfl⟩:=h1
          exact hQ nY a' w' S'
   case exit id =>
    simp only[Option.some.injEq,Prod.mk.injEq] at h;obtain⟨rfl,rfl⟩:=h
    exact wp_exit (hQ ρ a w S)
   case ret =>
    simp only[Option.some.injEq,Prod.mk.injEq] at h;obtain⟨rfl,rfl⟩:=h
    exact wp_ret (hQ ρ a w S)
   all_goals cases h
end
end Go.Ab
end
section
namespace Go.Ab
open Classical
variable [Ext]
section
variable {P:Program}
theorem QO {h0:Nat→Obj→Prop} {w w':World}:(bare (Dx h0 w w')).Le (bare (newHs h0 w w' [])) :=
 ⟨fun b o h=>⟨h.1,h.2,by simp⟩,fun _=>Nat.le_refl _,fun _ _ h=>absurd h (by simp[bare])⟩
def Ak (tmps:Array Value):ResultVar→Sem Value
 | .tmp t=>pure (tmps.getD t undef)
 | .cell p t=>do loadVar t (← asAddr (tmps.getD p undef))
theorem KM {h0:Nat→Obj→Prop} {w0:World} {F:Hs} {nt:Nat} {ρ:Nat→Nat→Value} {st:St} {a:Act} {w:World} (S:kJ F h0 w0 nt ρ st a w) {rv:ResultVar} {x:AV} (h:kA P st rv=some x) :
 ∃y,(Ak a.tmps rv).run P w=.ok y w∧cS (ctx h0 w0 ρ st w) x y:=by
 cases rv with
 | tmp t =>
   simp only[kA,Option.some.injEq] at h;subst h;exact⟨_,rfl,S.env t⟩
 | cell p T =>
   simp only[kA] at h;cases hra:qN st (st.env p) with
   | none=>simp[hra,cH] at h
   | some cs =>
     simp only[hra,cH] at h;obtain⟨b,off,arr,B,fr,hu,_,_⟩:=Ph S hra (S.env p)
     obtain⟨r,hr,eY⟩:=Ya S hra h (S.env p)
     rw[hu] at hr;refine⟨r, ?_,eY⟩
     simp only[Instr.loadAt,Instr.sureAddr] at hr;simp only[Ak,hu,asAddr];exact hr
theorem lX {h0:Nat→Obj→Prop} {w0:World} {F:Hs} {nt:Nat} {ρ:Nat→Nat→Value} {st:St} {a:Act} {w:World} (S:kJ F h0 w0 nt ρ st a w):∀(rs:List ResultVar) (xs:List AV),rs.map (kA P st)=xs.map some →
 ∃ys,(rs.mapM (Ak a.tmps)).run P w=.ok ys w∧lE (ctx h0 w0 ρ st w) xs ys
 | [],xs,h=>by
   cases xs with
   | nil=>exact⟨[],rfl,.nil _⟩
   | cons x xs=>simp at h
 | r :: rs,xs,h=>by
   cases xs with
   | nil=>simp at h
   | cons x xs =>
     simp only[List.map_cons,List.cons.injEq] at h;obtain⟨y,hy,eY⟩:=KM S h.1
     obtain⟨ys,We,hrels⟩:=lX S rs xs h.2
     refine⟨y :: ys, ?_,.cons eY hrels⟩
     rw[List.mapM_cons,dH hy,dH We];rfl
theorem KN {h0:Nat→Obj→Prop} {w0:World} {F:Hs} {nt:Nat} {ρ:Nat→Nat→Value} {st:St} {a:Act} {w:World} (S:kJ F h0 w0 nt ρ st a w) {fn:Func} {r:AV} (h:wN P fn st=some r) :
 ∃v,(results fn a.tmps).run P w=.ok v w∧AH h0 w0 w r v:=by
 have QP:∀(ys:List Value),(fn.results.toList.mapM (Ak a.tmps)).run P w=.ok ys w →
  (results fn a.tmps).run P w=.ok (if h:ys.toArray.size=1 then ys.toArray[0] else .tuple ys.toArray) w:=by
  intro ys We;have e:results fn a.tmps=(do let vs ← fn.results.mapM (Ak a.tmps);pure (if h:vs.size=1 then vs[0] else .tuple vs)):=by
   unfold results;congr 1
  rw[e,Array.mapM_eq_mapM_toList];simp only[Sem.run_bind,Sem.run_map,We,Result.andThen_ok,Sem.run_pure]
 unfold wN at h;split at h
 ·rename_i r1 N7;cases h1:kA P st r1 with
  | none=>simp[h1,cH] at h
  | some x =>
    simp only[h1,cH] at h;obtain⟨ys,We,eY⟩:=lX (P:=P) S [r1] [x] (by simp[h1])
    have hlen:=eY.len
    obtain⟨y,rfl⟩:∃y,ys=[y]:=by
     cases ys with
     | nil=>simp at hlen
     | cons y ys=>cases ys with
       | nil=>exact⟨y,rfl⟩
       | cons z zs=>simp at hlen
    have hxy:=eY.head
    have qD:=QP [y] (by rw[N7];exact We)
    simp at qD
    refine⟨y,qD, ?_⟩
    unfold Ut at h;split at h
    ·rename_i s g;split at h
     ·rename_i e sz n cs he;split at h
      ·rename_i hf;simp only[Option.some.injEq] at h;subst h;obtain⟨_,_,xs,ho,hc⟩:=S.sF s g _ he
       cases hxy with
       | own _ _ hg FR =>
         refine⟨[ρ s g],fun x hx=>by simp at hx;subst hx;exact FR,fun i j x y b hi hj _ _=>by
          have:=(List.getElem?_eq_some_iff.1 hi).1
          have:=(List.getElem?_eq_some_iff.1 hj).1
          simp only[List.length_singleton] at *
          omega,fun x hx b hb=>by simp at hx;subst hx;exact (vN ho b hb).1,fun d c=>rfl,fun D d c hD jR=>?_⟩
         obtain⟨k1,k2⟩:=jR 0 _ rfl
         simp only[Nat.add_zero] at k1 k2;refine⟨?_,fun i e' x hi hx=>?_⟩
         ·have:=cS.own (C:=D) d c k1 (by rw[k2];exact FR)
          rw[k2] at this;exact this
         ·match i with
          | 0 =>
            simp only[ZK,Vu,yF,List.getElem?_cons_zero,Option.some.injEq] at hi hx;subst hi;subst hx;exact⟨xs,ho,hc.flat hf fun b o hb=>hD b o ⟨hb.1,hb.2.1,by simpa using hb.2.2 s g _ he⟩⟩
          | i+1=>simp at hx
      ·cases h
     ·cases h
    ·exact Tj (Kk h) ((Nw S hxy h).le QO)
 ·rename_i rs gN;simp only[Option.map_eq_some_iff] at h;obtain⟨ds,Tk,rfl⟩:=h
  have hm:=jK _ _ Tk
  have hex:∃xs:List AV,fn.results.toList.map (kA P st)=xs.map some∧xs.map (Dd st)=ds.map some:=by
   generalize fn.results.toList=l at hm
   clear Tk
   induction l generalizing ds with
   | nil=>cases ds with
     | nil=>exact⟨[],rfl,rfl⟩
     | cons d ds=>simp at hm
   | cons r l ih=>cases ds with
     | nil=>simp at hm
     | cons d ds =>
       simp only[List.map_cons,List.cons.injEq] at hm;obtain⟨xs,e1,e2⟩:=ih ds hm.2
       cases hr:kA P st r with
       | none=>simp[hr,cH] at hm
       | some x =>
         simp only[hr,cH] at hm;exact⟨x :: xs,by simp[hr,e1],by simp[hm.1,e2]⟩
  obtain⟨xs,e1,e2⟩:=hex
  obtain⟨ys,We,eY⟩:=lX S _ xs e1
  have Si:xs.length=fn.results.toList.length:=by have:=congrArg List.length e1;simpa using this.symm
  have B7:ds.length=xs.length:=by have:=congrArg List.length e2;simpa using this.symm
  have aAh:ys.toArray.size≠1:=by
   intro h1;have hlen:=eY.len
   simp only[List.size_toArray] at h1;have:fn.results.toList.length=1:=by omega
   obtain⟨z,hz⟩:=List.length_eq_one_iff.1 this
   exact gN z hz
  have qD:=QP ys We
  rw[dif_neg aAh] at qD;refine⟨_,qD, ?_⟩
  refine Tj (.eG ds (pK (p:=Flat) (f:=fun r=>cH (kA P st r) (Dd st)) (fun a b h=>by
   cases hr:kA P st a with
   | none=>simp[hr,cH] at h
   | some x=>simp only[hr,cH] at h;exact WY h) _ _ Tk)) (.eG ds ys.toArray (by simp;rw[B7];exact eY.len) fun i x y hx hy=>?_)
  have hi:i<xs.length:=by have:=(List.getElem?_eq_some_iff.1 hx).1;omega
  have Ke:Dd st xs[i]=some x:=by
   have:=congrArg (·[i]?) e2
   simp only[List.getElem?_map,hx,List.getElem?_eq_getElem hi,Option.map_some,Option.some.injEq] at this;exact this
  exact (QB S (eY.rel i xs[i] y (by simp[hi]) (by simpa using hy)) Ke).le QO
def u9 (w0:World) (ρ:Nat→Nat→Value) (st:St) (w:World) (d:Nat) (H:Nat→Obj→Prop) (f:Nat→AV→AV × List mV) (y:AV) (ks:List (Nat × Nat)) (u:Value):Prop :=
 (∀k∈ks,∃e,st.heap k.1 k.2=some e∧e.UK=false)∧∀c,(f c y).2.length=ks.length∧∀D:Ctx,(∀b o,H b o→D.h b o)→(∀(i:Nat) (k:Nat × Nat),ks[i]? = some k→c+i<D.aP d∧D.ρ d (c+i)=ρ k.1 k.2) →
  cS D (f c y).1 u∧∀(i:Nat) (e:mV) (k:Nat × Nat),(f c y).2[i]? = some e→ks[i]? = some k→nN D w w0.heap.size (ρ k.1 k.2) e
section qM
variable {h0:Nat→Obj→Prop} {w0:World} {F:Hs} {nt:Nat} {ρ:Nat→Nat→Value} {st:St} {a:Act} {w:World} {H:Nat→Obj→Prop}
theorem aAi (S:kJ F h0 w0 nt ρ st a w) (hH:∀b o,(ctx h0 w0 ρ st w).h b o→H b o) {x y:AV} {u:Value} (hu:cS (ctx h0 w0 ρ st w) x u) (h:kK st x=some y) (d:Nat):u9 w0 ρ st w d H (yF d) y (gI x) u:=by
 unfold kK at h;split at h
 ·rename_i hf;simp only[Option.some.injEq] at h;subst h;have hk:gI x=[]:=by cases hf<;>rfl
  rw[hk];refine⟨by simp,fun c=>?_⟩
  rw[Kj hf];exact⟨rfl,fun D hD _=>⟨hu.flat hf fun b o hb=>hD _ _ (hH _ _ hb),by simp⟩⟩
 ·split at h
  ·rename_i s g _;split at h
   ·rename_i e sz n cs he;split at h
    ·rename_i hf;simp only[Option.some.injEq] at h;subst h;obtain⟨_,h1,xs,ho,hc⟩:=S.sF s g _ he
     have hu':u=ρ s g:=by cases hu;rfl
     subst hu'
     refine⟨by simp[gI];exact⟨_,he,rfl⟩,fun c=>⟨rfl,fun D hD jR=>?_⟩⟩
     obtain⟨k1,k2⟩:=jR 0 (s,g) rfl
     simp only[Nat.add_zero] at k1 k2;refine⟨?_,fun i e' k hi hk=>?_⟩
     ·have:=cS.own (C:=D) d c k1 (by rw[k2];exact h1)
      rw[k2] at this;exact this
     ·match i with
      | 0 =>
        simp only[yF,gI,List.getElem?_cons_zero,Option.some.injEq] at hi hk;subst hi;subst hk;exact⟨xs,ho,hc.flat hf fun b o hb=>hD _ _ (hH _ _ hb)⟩
      | i+1=>simp[gI] at hk
    ·cases h
   ·cases h
  ·cases h
theorem aAj {f:Nat→AV→AV × List mV} {kf:AV→List (Nat × Nat)} {d:Nat}:∀(xs ys:List AV) (us:List Value),xs.length=ys.length→xs.length=us.length →
 (∀(i:Nat) (x y:AV) (u:Value),xs[i]? = some x→ys[i]? = some y→us[i]? = some u→u9 w0 ρ st w d H f y (kf x) u) →
 (∀k∈xs.flatMap kf,∃e,st.heap k.1 k.2=some e∧e.UK=false)∧∀c,(pW f c ys).2.length=(xs.flatMap kf).length∧∀D:Ctx,(∀b o,H b o→D.h b o) →
  (∀(i:Nat) (k:Nat × Nat),(xs.flatMap kf)[i]? = some k→c+i<D.aP d∧D.ρ d (c+i)=ρ k.1 k.2) →
  lE D (pW f c ys).1 us∧∀(i:Nat) (e:mV) (k:Nat × Nat),(pW f c ys).2[i]? = some e→(xs.flatMap kf)[i]? = some k→nN D w w0.heap.size (ρ k.1 k.2) e
 | [],ys,us,h1,h2,_=>by
   have e1:ys=[]:=List.length_eq_zero_iff.1 (by simpa using h1.symm)
   have e2:us=[]:=List.length_eq_zero_iff.1 (by simpa using h2.symm)
   subst e1;subst e2;exact⟨by simp,fun c=>⟨rfl,fun D _ _=>⟨.nil _,by simp[pW]⟩⟩⟩
 | x :: xs,[],us,h1,_,_=>by simp at h1
 | x :: xs,y :: ys,[],_,h2,_=>by simp at h2
 | x :: xs,y :: ys,u :: us,h1,h2,hg=>by
   obtain⟨g1,g2⟩:=hg 0 x y u rfl rfl rfl
   obtain⟨i1,i2⟩:=aAj xs ys us (by simpa using h1) (by simpa using h2) fun i x' y' u' hx hy hu=>hg (i+1) x' y' u' (by simpa using hx) (by simpa using hy) (by simpa using hu)
   refine⟨fun k hk=>?_,fun c=>?_⟩
   ·simp only[List.flatMap_cons,List.mem_append] at hk;rcases hk with hk|hk
    ·exact g1 k hk
    ·exact i1 k hk
   ·obtain⟨l1,m1⟩:=g2 c
    obtain⟨l2,m2⟩:=i2 (c+(f c y).2.length)
    rw[l1] at l2 m2;simp only[pW,List.flatMap_cons,List.length_append,l1];refine⟨by rw[l2],fun D hD jR=>?_⟩
    obtain⟨r1,e1⟩:=m1 D hD fun i k hk=>jR i k (by rw[List.getElem?_append_left (List.getElem?_eq_some_iff.1 hk).1];exact hk)
    obtain⟨r2,e2⟩:=m2 D hD fun i k hk=>by
     have:=jR ((kf x).length+i) k (by rw[List.getElem?_append_right (by omega)];simpa using hk)
     rw[Nat.add_assoc];exact this
    refine⟨.cons r1 r2,fun i e k hi hk=>?_⟩
    by_cases aY:i<(kf x).length
    ·rw[List.getElem?_append_left (by rw[l1];exact aY)] at hi
     rw[List.getElem?_append_left aY] at hk;exact e1 i e k hi hk
    ·rw[List.getElem?_append_right (by rw[l1];omega),l1] at hi
     rw[List.getElem?_append_right (by omega)] at hk
     exact e2 _ e k hi hk
theorem BC {α β:Type} {f:α→Option β} {l:List α} {r:List β} (h:cM (l.map f)=some r):l.length=r.length∧∀(i:Nat) x y,l[i]? = some x→r[i]? = some y→f x=some y:=by
 have hm:=jK _ _ h
 have hl:l.length=r.length:=by have:=congrArg List.length hm;simpa using this
 refine⟨hl,fun i x y hx hy=>?_⟩
 have:=congrArg (·[i]?) hm
 simp only[List.getElem?_map,hx,hy,Option.map_some,Option.some.injEq] at this;exact this
theorem aE3 (S:kJ F h0 w0 nt ρ st a w) (hH:∀b o,(ctx h0 w0 ρ st w).h b o→H b o) {x y:AV} {u:Value} (hu:cS (ctx h0 w0 ρ st w) x u) (h:sE st x=some y) (d:Nat):u9 w0 ρ st w d H (Vu d) y (jD x) u:=by
 cases x
 case agg cs =>
  simp only[sE,Option.map_eq_some_iff] at h;obtain⟨ds,Tk,rfl⟩:=h
  obtain⟨hl,H0⟩:=BC Tk
  cases hu with
  | agg _ ar hla hr h1 =>
    obtain⟨g1,g2⟩:=aAj (w0:=w0) (ρ:=ρ) (st:=st) (w:=w) (H:=H) (f:=yF d) (kf:=gI) (d:=d) cs ds ar.toList hl (by simpa using hla) fun i x y v hx hy hv=>aAi S hH (hr i x v hx (by simpa using hv)) (H0 i x y hx hy) d
    refine⟨g1,fun c=>?_⟩
    obtain⟨l1,m1⟩:=g2 c
    refine⟨l1,fun D hD jR=>?_⟩
    obtain⟨r1,e1⟩:=m1 D hD jR
    exact⟨.agg _ ar (by simpa using r1.len) (fun i x y hx hy=>r1.rel i x y hx (by simpa using hy)) h1,e1⟩
 all_goals
  have g:=aAi S hH hu h d
  cases y<;>first|exact g|skip
  all_goals
   exfalso
   simp only[sE] at h;unfold kK at h;split at h
   ·simp at h
   ·simp at h
    try (split at h<;>(try split at h)<;>simp at h)
theorem aE4 (S:kJ F h0 w0 nt ρ st a w) (hH:∀b o,(ctx h0 w0 ρ st w).h b o→H b o) {x y:AV} {u:Value} (hu:cS (ctx h0 w0 ρ st w) x u) (h:De st x=some y) (d:Nat):u9 w0 ρ st w d H (ZK d) y (lO x) u:=by
 cases x
 case eG cs =>
  simp only[De,Option.map_eq_some_iff] at h;obtain⟨ds,Tk,rfl⟩:=h
  obtain⟨hl,H0⟩:=BC Tk
  cases hu with
  | eG _ ar hla hr =>
    obtain⟨g1,g2⟩:=aAj (w0:=w0) (ρ:=ρ) (st:=st) (w:=w) (H:=H) (f:=Vu d) (kf:=jD) (d:=d) cs ds ar.toList hl (by simpa using hla) fun i x y v hx hy hv=>aE3 S hH (hr i x v hx (by simpa using hv)) (H0 i x y hx hy) d
    refine⟨g1,fun c=>?_⟩
    obtain⟨l1,m1⟩:=g2 c
    refine⟨l1,fun D hD jR=>?_⟩
    obtain⟨r1,e1⟩:=m1 D hD jR
    exact⟨.eG _ ar (by simpa using r1.len) (fun i x y hx hy=>r1.rel i x y hx (by simpa using hy)),e1⟩
 case agg cs =>
  have g:=aE3 S hH hu h d
  cases y<;>first|exact g|(simp only[De,sE,Option.map_eq_some_iff] at h;obtain⟨_,_,h⟩:=h;cases h)
 all_goals
  have g:=aAi S hH hu h d
  cases y<;>first|exact g|skip
  all_goals
   exfalso
   simp only[De,sE] at h;unfold kK at h;split at h
   ·simp at h
   ·simp at h
    try (split at h<;>(try split at h)<;>simp at h)
theorem Vp (S:kJ F h0 w0 nt ρ st a w) {x r:AV} {u:Value} (hu:cS (ctx h0 w0 ρ st w) x u) (hn:(lO x).Nodup) (h:De st x=some r):AH h0 w0 w r u:=by
 have hH:∀b o,(ctx h0 w0 ρ st w).h b o→newHs h0 w0 w ((lO x).map fun k=>ρ k.1 k.2) b o:=fun b o hb=>by
  have g:=(aE4 (H:=(ctx h0 w0 ρ st w).h) S (fun _ _ h=>h) hu h 0).1
  refine⟨hb.1,hb.2.1,fun y hy=>?_⟩
  obtain⟨k,hk,rfl⟩:=List.mem_map.1 hy
  obtain⟨e,he,_⟩:=g k hk
  exact hb.2.2 _ _ e he
 have g:=fun d=>aE4 S hH hu h d
 have key:∀y∈(lO x).map (fun k=>ρ k.1 k.2),∃k e,k∈lO x∧y=ρ k.1 k.2∧st.heap k.1 k.2=some e∧e.UK=false:=fun y hy=>by
  obtain⟨k,hk,rfl⟩:=List.mem_map.1 hy
  obtain⟨e,he,hl⟩:=(g 0).1 k hk
  exact⟨k,e,hk,rfl,he,hl⟩
 refine⟨(lO x).map fun k=>ρ k.1 k.2,fun y hy=>?_,fun i j y z b hy hz hb oC=>?_,fun y hy b hb=>?_,fun d c=>by rw[((g d).2 c).1];simp,fun D d c hD jR=>?_⟩
 ·obtain⟨k,e,_,rfl,he,_⟩:=key y hy
  exact (S.sF _ _ e he).2.1
 ·rw[List.getElem?_map] at hy hz;cases hi:(lO x)[i]? with
  | none=>simp[hi] at hy
  | some k=>cases hj:(lO x)[j]? with
    | none=>simp[hj] at hz
    | some k' =>
      simp only[hi,hj,Option.map_some,Option.some.injEq] at hy hz;subst hy;subst hz;obtain⟨e,he,_⟩:=(g 0).1 k (List.mem_of_getElem? hi)
      obtain⟨e',yP,_⟩:=(g 0).1 k' (List.mem_of_getElem? hj)
      obtain⟨q1,q2⟩:=S.inj _ _ _ _ e e' b he yP hb oC
      have hkk:k=k':=Prod.ext q1 q2
      subst hkk;obtain⟨hil,Cw⟩:=List.getElem?_eq_some_iff.1 hi
      obtain⟨hjl,hje⟩:=List.getElem?_eq_some_iff.1 hj
      have hp:=List.pairwise_iff_getElem.1 hn
      rcases Nat.lt_trichotomy i j with aY|heq|aY
      ·exact absurd (Cw.trans hje.symm) (hp i j hil hjl aY)
      ·exact heq
      ·exact absurd (hje.trans Cw.symm) (hp j i hjl hil aY)
 ·obtain⟨k,e,_,rfl,he,hl⟩:=key y hy
  exact ((S.sF _ _ e he).2.2.UB b hb).1 hl
 ·obtain⟨r1,e1⟩:=((g d).2 c).2 D hD fun i k hk=>jR i _ (by rw[List.getElem?_map,hk];rfl)
  refine⟨r1,fun i e y hi hy=>?_⟩
  rw[List.getElem?_map] at hy;cases hk:(lO x)[i]? with
  | none=>simp[hk] at hy
  | some k =>
    simp only[hk,Option.map_some,Option.some.injEq] at hy;subst hy;exact e1 i e k hi hk
end qM
theorem EE {h0:Nat→Obj→Prop} {w0:World} {F:Hs} {nt:Nat} {ρ:Nat→Nat→Value} {st:St} {a:Act} {w:World} (S:kJ F h0 w0 nt ρ st a w) {fn:Func} {r:AV} (h:Pa P fn st=some r) :
 ∃v,(results fn a.tmps).run P w=.ok v w∧AH h0 w0 w r v:=by
 have QP:∀(ys:List Value),(fn.results.toList.mapM (Ak a.tmps)).run P w=.ok ys w →
  (results fn a.tmps).run P w=.ok (if h:ys.toArray.size=1 then ys.toArray[0] else .tuple ys.toArray) w:=by
  intro ys We;have e:results fn a.tmps=(do let vs ← fn.results.mapM (Ak a.tmps);pure (if h:vs.size=1 then vs[0] else .tuple vs)):=by
   unfold results;congr 1
  rw[e,Array.mapM_eq_mapM_toList];simp only[Sem.run_bind,Sem.run_map,We,Result.andThen_ok,Sem.run_pure]
 unfold Pa at h;split at h
 ·rename_i r1 N7;cases h1:kA P st r1 with
  | none=>simp[h1,cH] at h
  | some x =>
    simp only[h1,cH] at h;split at h
    ·rename_i hn;obtain⟨ys,We,eY⟩:=lX (P:=P) S [r1] [x] (by simp[h1])
     have hlen:=eY.len
     obtain⟨y,rfl⟩:∃y,ys=[y]:=by
      cases ys with
      | nil=>simp at hlen
      | cons y ys=>cases ys with
        | nil=>exact⟨y,rfl⟩
        | cons z zs=>simp at hlen
     have qD:=QP [y] (by rw[N7];exact We)
     simp at qD
     exact⟨y,qD,Vp S eY.head hn h⟩
    ·cases h
 ·rename_i rs gN;cases DS:cM (fn.results.toList.map fun r=>kA P st r) with
  | none=>simp[DS,cH] at h
  | some xs =>
    simp only[DS,cH] at h;split at h
    ·rename_i hn;have e1:=jK _ _ DS
     obtain⟨ys,We,eY⟩:=lX S _ xs e1
     have Si:xs.length=fn.results.toList.length:=by have:=congrArg List.length e1;simpa using this.symm
     have aAh:ys.toArray.size≠1:=by
      intro h1;have hlen:=eY.len
      simp only[List.size_toArray] at h1;have:fn.results.toList.length=1:=by omega
      obtain⟨z,hz⟩:=List.length_eq_one_iff.1 this
      exact gN z hz
     have qD:=QP ys We
     rw[dif_neg aAh] at qD;exact⟨_,qD,Vp S (.eG xs ys.toArray (by simpa using eY.len) fun i x y hx hy=>eY.rel i x y hx (by simpa using hy)) hn h⟩
    ·cases h
theorem Mk {h0:Nat→Obj→Prop} {w0:World} {F:Hs} {nt:Nat} {ρ:Nat→Nat→Value} {st:St} {a:Act} {w:World} (S:kJ F h0 w0 nt ρ st a w) {f:Nat} {fn:Func} {r:AV} (h:iY P f fn st=some r) :
 ∃v,(results fn a.tmps).run P w=.ok v w∧AH h0 w0 w r v:=by
 unfold iY at h;split at h
 ·exact EE S h
 ·exact KN S h
theorem aAk {h0:Nat→Obj→Prop} {w:World} {xs:List AV} {vs:Array Value} {nt:Nat} (hh:∀b o,h0 b o→w.heap[b]? = some o) (eY:lE (bare h0) xs vs.toList) :
 kJ Hs.none h0 w nt (fun _ _=>undef) (St.init xs) { tmps:=vs++Array.replicate (nt-vs.size) undef,defers:=[]} w:=by
 have k:(bare h0).Le (ctx h0 w (fun _ _=>undef) (St.init xs) w):=⟨fun b o h=>⟨hh b o h,fun _=>h,fun s g e he=>by simp[St.init] at he⟩,fun _=>Nat.le_refl _,fun _ _ h=>absurd h (by simp[bare])⟩
 refine⟨fun t=>?_,fun s g e he=>by simp[St.init] at he,fun s g s' g' e e' b he=>by simp[St.init] at he,⟨rfl,rfl,rfl,Nat.le_refl _,fun _ _ _=>rfl⟩,by simp;omega,rfl,⟨fun x v h=>h.elim,fun b o h=>h.elim,Nat.zero_le _⟩⟩
 have hlen:=eY.len
 simp only[Array.length_toList] at hlen;show cS _ ((xs[t]?).getD (.v undef)) _
 by_cases ht:t<vs.size
 ·have hx:xs[t]? = some (xs[t]'(by omega)):=by simp[show t<xs.length by omega]
  have hy:vs.toList[t]? = some vs[t]:=by simp[ht]
  have:=(eY.rel t _ _ hx hy).le k
  rw[hx];simp only[Option.getD_some];have e:(vs++Array.replicate (nt-vs.size) undef).getD t undef=vs[t]:=by
   simp[Array.getElem?_append_left ht,ht]
  rw[e];exact this
 ·have hx:xs[t]? = none:=List.getElem?_eq_none (by omega)
  rw[hx];have e:(vs++Array.replicate (nt-vs.size) undef).getD t undef=undef:=by
   rw[Array.getD_eq_getD_getElem?,Array.getElem?_append_right (by omega),Array.getElem?_replicate]
   split<;>rfl
  rw[e];exact .v _
def HH (P:Program):Prop:=pJ P Ext.ext
theorem aCS {h0:Nat→Obj→Prop} {w0:World} {F:Hs} {nt:Nat} {ρ:Nat→Nat→Value} {st:St} {a:Act} {w:World} (S:kJ F h0 w0 nt ρ st a w) {xs:List AV} {vs:Array Value} {n:Nat} (eY:lE (ctx h0 w0 ρ st w) xs vs.toList) :
 kJ ⟨fun x v=>F.fr x v∨∃t,x=st.env t∧v=a.tmps.getD t undef,F.hb,F.sz⟩ h0 w0 n ρ ((St.init xs).back st) { tmps:=vs++Array.replicate (n-vs.size) undef,defers:=[]} w:=by
 have hc:ctx h0 w0 ρ ((St.init xs).back st) w=ctx h0 w0 ρ st w:=rfl
 refine⟨fun t=>?_,fun s g e he=>?_,fun s g s' g' e e' b he yP=>S.inj s g s' g' e e' b he yP,S.ext,by simp;omega,rfl,⟨fun x v h=>?_,S.Ov.2.1,S.Ov.2.2⟩⟩
 ·have hlen:=eY.len
  simp only[Array.length_toList] at hlen;show cS _ ((xs[t]?).getD (.v undef)) _
  by_cases ht:t<vs.size
  ·have hx:xs[t]? = some (xs[t]'(by omega)):=by simp[show t<xs.length by omega]
   have hy:vs.toList[t]? = some vs[t]:=by simp[ht]
   have:=eY.rel t _ _ hx hy
   rw[hx];simp only[Option.getD_some];have e:(vs++Array.replicate (n-vs.size) undef).getD t undef=vs[t]:=by
    simp[Array.getElem?_append_left ht,ht]
   rw[e];exact this
  ·have hx:xs[t]? = none:=List.getElem?_eq_none (by omega)
   rw[hx];have e:(vs++Array.replicate (n-vs.size) undef).getD t undef=undef:=by
    rw[Array.getD_eq_getD_getElem?,Array.getElem?_append_right (by omega),Array.getElem?_replicate]
    split<;>rfl
   rw[e];exact .v _
 ·exact S.sF s g e he
 ·rcases h with h|⟨t,rfl,rfl⟩
  ·exact S.Ov.1 x v h
  ·exact S.env t
theorem EF {h0:Nat→Obj→Prop} {w0:World} {F:Hs} {nt:Nat} {ρ:Nat→Nat→Value} {st:St} {a:Act} {w:World} (S:kJ F h0 w0 nt ρ st a w) {fn:Func} {r:AV} (h:Bf P fn st=some r) :
 ∃v,(results fn a.tmps).run P w=.ok v w∧cS (ctx h0 w0 ρ st w) r v:=by
 have QP:∀(ys:List Value),(fn.results.toList.mapM (Ak a.tmps)).run P w=.ok ys w →
  (results fn a.tmps).run P w=.ok (if h:ys.toArray.size=1 then ys.toArray[0] else .tuple ys.toArray) w:=by
  intro ys We;have e:results fn a.tmps=(do let vs ← fn.results.mapM (Ak a.tmps);pure (if h:vs.size=1 then vs[0] else .tuple vs)):=by
   unfold results;congr 1
  rw[e,Array.mapM_eq_mapM_toList];simp only[Sem.run_bind,Sem.run_map,We,Result.andThen_ok,Sem.run_pure]
 unfold Bf at h;split at h
 ·rename_i r1 N7;obtain⟨ys,We,eY⟩:=lX (P:=P) S [r1] [r] (by simp[h])
  have hlen:=eY.len
  obtain⟨y,rfl⟩:∃y,ys=[y]:=by
   cases ys with
   | nil=>simp at hlen
   | cons y ys=>cases ys with
     | nil=>exact⟨y,rfl⟩
     | cons z zs=>simp at hlen
  have qD:=QP [y] (by rw[N7];exact We)
  simp at qD
  exact⟨y,qD,eY.head⟩
 ·rename_i rs gN;cases DS:cM (fn.results.toList.map fun r=>kA P st r) with
  | none=>simp[DS] at h
  | some xs =>
    simp only[DS,Option.map_some,Option.some.injEq] at h;subst h;have e1:=jK _ _ DS
    obtain⟨ys,We,eY⟩:=lX S _ xs e1
    have Si:xs.length=fn.results.toList.length:=by have:=congrArg List.length e1;simpa using this.symm
    have aAh:ys.toArray.size≠1:=by
     intro h1;have hlen:=eY.len
     simp only[List.size_toArray] at h1;have:fn.results.toList.length=1:=by omega
     obtain⟨z,hz⟩:=List.length_eq_one_iff.1 this
     exact gN z hz
    have qD:=QP ys We
    rw[dif_neg aAh] at qD;exact⟨_,qD,.eG xs ys.toArray (by simpa using eY.len) fun i x y hx hy=>eY.rel i x y hx (by simpa using hy)⟩
theorem EG {xs:List AV} {u:Nat × Nat × Nat × List AV × List AV} (h:qO xs=some u):xs=.uniq u.1 u.2.1 u.2.2.1 u.2.2.2.1 :: u.2.2.2.2:=by
 unfold qO at h;split at h
 ·simp only[Option.some.injEq] at h;subst h;rfl
 ·cases h
theorem H9 {h0:Nat→Obj→Prop} {w:World} {v0:Value} {e sz m:Nat} {cs xs:List AV} {ys:List Value} {vs:Array Value} {nt:Nat} (hh:∀b o,h0 b o→w.heap[b]? = some o) (gN:∀b o,h0 b o→cW v0≠some b) (ho:mP w 0 e sz v0 m ys) (hc:fQ (bare h0) cs ys) (eY:lE (bare h0) xs vs.toList) :
 kJ ⟨fun _ _=>False,fun b o=>w.heap[b]? = some o∧cW v0≠some b,w.heap.size⟩ h0 { w with heap:=#[]} nt (fun s g=>if s=0∧g=0 then v0 else undef) (St.tM e sz m cs xs) { tmps:=(#[v0]++vs)++Array.replicate (nt-(#[v0]++vs).size) undef,defers:=[]} w:=by
 have vA:∀s g e',(St.tM e sz m cs xs).heap s g=some e'→s=0∧g=0∧e'=.row e sz m cs:=fun s g e' h=>by
  simp only[St.tM] at h;split at h
  ·rename_i h1;cases h;exact⟨h1.1,h1.2,rfl⟩
  ·cases h
 have k:(bare h0).Le (ctx h0 { w with heap:=#[]} (fun s g=>if s=0∧g=0 then v0 else undef) (St.tM e sz m cs xs) w) :=
  ⟨fun b o h=>⟨hh b o h,fun aY=>by simp at aY,fun s g e' he=>by
   obtain⟨rfl,rfl,_⟩:=vA _ _ _ he
   exact gN b o h⟩,fun _=>Nat.zero_le _,fun _ _ h=>absurd h (by simp[bare])⟩
 refine⟨fun t=>?_,fun s g e' he=>?_,fun s g s' g' e1 e2 b he yP _ _=>?_,⟨rfl,rfl,rfl,Nat.zero_le _,fun b hb _=>by simp at hb⟩,by simp;omega,rfl,⟨fun x v h=>h.elim,fun b o h=>⟨h.1,fun aY=>by simp at aY,fun s g e' he=>?_⟩,Nat.le_refl _⟩⟩
 ·have hlen:=eY.len
  simp only[Array.length_toList] at hlen;cases t with
  | zero =>
    have e0:((#[v0]++vs)++Array.replicate (nt-(#[v0]++vs).size) undef).getD 0 undef=v0:=by
     simp[Array.getElem?_append]
    rw[e0];have:=cS.own (C:=ctx h0 { w with heap:=#[]} (fun s g=>if s=0∧g=0 then v0 else undef) (St.tM e sz m cs xs) w) 0 0 (by show 0<(St.tM e sz m cs xs).aP 0;simp[St.tM]) (by show (if (0:Nat)=0∧(0:Nat)=0 then v0 else undef).oneCell'=true;simp;exact pS ho)
    have e1:(ctx h0 { w with heap:=#[]} (fun s g=>if s=0∧g=0 then v0 else undef) (St.tM e sz m cs xs) w).ρ 0 0=v0:=by show (if (0:Nat)=0∧(0:Nat)=0 then v0 else undef)=v0;simp
    rw[e1] at this;exact this
  | succ t =>
    show cS _ ((xs[t]?).getD (.v undef)) _
    by_cases ht:t<vs.size
    ·have hx:xs[t]? = some (xs[t]'(by omega)):=by simp[show t<xs.length by omega]
     have hy:vs.toList[t]? = some vs[t]:=by simp[ht]
     have:=(eY.rel t _ _ hx hy).le k
     rw[hx];simp only[Option.getD_some];have e2:((#[v0]++vs)++Array.replicate (nt-(#[v0]++vs).size) undef).getD (t+1) undef=vs[t]:=by
      rw[Array.getD_eq_getD_getElem?,Array.getElem?_append_left (by simp;omega),Array.getElem?_append_right (by simp)]
      simp[ht]
     rw[e2];exact this
    ·have hx:xs[t]? = none:=List.getElem?_eq_none (by omega)
     rw[hx];have e2:((#[v0]++vs)++Array.replicate (nt-(#[v0]++vs).size) undef).getD (t+1) undef=undef:=by
      rw[Array.getD_eq_getD_getElem?,Array.getElem?_append_right (by simp;omega),Array.getElem?_replicate]
      split<;>rfl
     rw[e2];exact .v _
 ·obtain⟨rfl,rfl,rfl⟩:=vA _ _ _ he
  refine⟨by simp[St.tM],by simp;exact pS ho, ?_⟩
  simp only[and_self,if_true];exact⟨ys,ho,hc.le k⟩
 ·obtain⟨rfl,rfl,_⟩:=vA _ _ _ he
  obtain⟨rfl,rfl,_⟩:=vA _ _ _ yP
  exact⟨rfl,rfl⟩
 ·obtain⟨rfl,rfl,_⟩:=vA _ _ _ he
  exact h.2
theorem aCT (hm:P.follows .mixedOrders=true) {call:Nat→List AV→Option AV} {inl:Nat→List AV→St→Option (AV × St)} (iX:pJ P call) (Lq:Vl P inl) {n g:Nat} {xs:List AV} {u:Nat × Nat × Nat × List AV × List AV} (hq:qO xs=some u) {r:AV}
 (h:runM P call inl n g u.1 u.2.1 u.2.2.1 u.2.2.2.1 u.2.2.2.2=some r):xU P g∧Ah P g xs r:=by
 have DS:=EG hq
 subst DS;obtain⟨e,sz,m,cs,rest⟩:=u
 simp only at h ⊢
 unfold runM at h;cases hf:P.funcs[g]? with
 | none=>simp[hf] at h
 | some fn =>
   simp only[hf] at h;split at h
   ·rename_i oR;cases hb:fn.body with
    | none=>simp[hb] at h
    | some c =>
      simp only[hb] at h;simp only[sL,Xu,hb,Bool.and_eq_true,bne_iff_ne,ne_eq] at oR;refine⟨⟨fn,hf,by simpa using oR.1,by simp[hb]⟩, ?_⟩
      show WV P g e sz m cs rest r
      intro w h0 v0 ys vs hh gN ho Ay eY;cases h1:tY P (lP c) call inl n c (St.tM e sz m cs rest) with
      | none=>simp[h1,cH] at h
      | some es =>
        obtain⟨ex,sf⟩:=es
        simp only[h1,cH] at h;refine calls_of_wp hf hb ?_
        refine oP hm iX Lq n c (St.tM e sz m cs rest) sf ex _ _ w _ oR.2 (H9 hh gN ho Ay eY) h1 fun nY a' w' S'=>?_
        have fin:Be P fn sf=some r→∃e' sJ n' Ff,r=.uniq e' sJ n' Ff∧a'.defers=[]∧∃v',(results fn a'.tmps).run P w'=.ok v' w'∧w.grownBy w' (cW v0) ∧
         ∃zs,mP w' 0 e' sJ v' n' zs∧fQ (bare h0) Ff zs∧∀b,cW v'=some b→cW v0=some b∨w.heap.size≤b:=fun h=>by
         unfold Be at h;split at h
         ·rename_i r1 N7;split at h
          ·rename_i s k hrv;split at h
           ·rename_i e' sJ n' Ff hhp
            split at h
            ·rename_i hmf;simp only[Option.some.injEq] at h;subst h;obtain⟨y,hy,Qt⟩:=lX (P:=P) S' [r1] [.own s k] (by simp[hrv])
             have hlen:=Qt.len
             obtain⟨z,rfl⟩:∃z,y=[z]:=by
              cases y with
              | nil=>simp at hlen
              | cons y ys=>cases ys with
                | nil=>exact⟨y,rfl⟩
                | cons z zs=>simp at hlen
             have hz:z=nY s k:=by
              have:=Qt.head
              cases this
              rfl
             subst hz;have qD:(results fn a'.tmps).run P w'=.ok (nY s k) w':=by
              have e1:results fn a'.tmps=(do let vs ← fn.results.mapM (Ak a'.tmps);pure (if h:vs.size=1 then vs[0] else .tuple vs)):=by
               unfold results;congr 1
              rw[e1,Array.mapM_eq_mapM_toList,N7];simp only[Sem.run_bind,Sem.run_map,hy,Result.andThen_ok,Sem.run_pure];simp
             obtain⟨_,_,zs,hzo,Z0⟩:=S'.sF s k _ hhp
             obtain⟨_,hkb,hsz⟩:=S'.Ov
             refine⟨e',sJ,n',Ff,rfl,S'.defers,_,qD,⟨S'.ext.os,S'.ext.tape,S'.ext.output,hsz,fun b hb hnb=>?_⟩,zs, ?_, ?_,fun b hb=>?_⟩
             ·have PZ:w.heap[b]? = some w.heap[b]:=Array.getElem?_eq_getElem hb
              rw[PZ];exact (hkb b _ ⟨PZ,fun h=>hnb h.symm⟩).1
             ·exact vM hzo (Nat.zero_le _)
             ·exact⟨Z0.len,fun i x y hx hy=>(Z0.rel i x y hx hy).Qr (hmf x (List.mem_of_getElem? hx)),Z0.one⟩
             ·by_cases h1:cW v0=some b
              ·exact .inl h1
              ·right
               rcases Nat.lt_or_ge b w.heap.size with aY|hge
               ·exfalso
                have PZ:w.heap[b]? = some w.heap[b]:=Array.getElem?_eq_getElem aY
                exact (hkb b _ ⟨PZ,h1⟩).2.2 s k _ hhp hb
               ·exact hge
            ·cases h
           ·cases h
          ·rename_i s k n0 hrv;split at h
           ·rename_i e' sJ n' Ff hhp
            split at h
            ·rename_i hmf;obtain⟨Fg,hcl',hmf⟩:=hmf
             simp only[Option.some.injEq] at h;subst h;obtain⟨y,hy,Qt⟩:=lX (P:=P) S' [r1] [.vw s k 0 n0] (by simp[hrv])
             have hlen:=Qt.len
             obtain⟨z,rfl⟩:∃z,y=[z]:=by
              cases y with
              | nil=>simp at hlen
              | cons y ys=>cases ys with
                | nil=>exact⟨y,rfl⟩
                | cons z zs=>simp at hlen
             obtain⟨_,_,zs,hzo,Z0⟩:=S'.sF s k _ hhp
             obtain⟨_,hkb,hsz⟩:=S'.Ov
             have hz:∃b cap cur,z=.slice (some ⟨b,0,none⟩) n0 cap∧cW (nY s k)=some b∧w'.heap[b]? = some (.cells cur e' (0,0))∧n0≤cap∧cap≤maxLen∧cur.size=cap * sJ∧cur.toList.take (n' * sJ)=zs∧0<cap:=by
              have hv:=Qt.head
              cases hv with
              | vw _ _ _ _ b cap hg hb mY zJ =>
                have oC:cW (nY s k)=some b:=hb
                rcases hzo.2 with ⟨q,jR,hn⟩|⟨b',DF,cur,jR,xD,hh,H2,G6,AI,ht,pT⟩
                ·rw[jR,oE] at oC;cases oC
                ·have wO:b'=b:=by rw[jR,jE pT] at oC;simpa using oC
                 subst wO;have hcc:cap=DF:=zJ rfl _ _ _ jR
                 subst hcc;exact⟨b',cap,cur,rfl,oC,hh,mY,G6,AI,ht,pT⟩
             obtain⟨b,cap,cur,rfl,hbk,hhb,mY,G6,AI,ht,pT⟩:=hz
             have qD:(results fn a'.tmps).run P w'=.ok (.slice (some ⟨b,0,none⟩) n0 cap) w':=by
              have e1:results fn a'.tmps=(do let vs ← fn.results.mapM (Ak a'.tmps);pure (if h:vs.size=1 then vs[0] else .tuple vs)):=by
               unfold results;congr 1
              rw[e1,Array.mapM_eq_mapM_toList,N7];simp only[Sem.run_bind,Sem.run_map,hy,Result.andThen_ok,Sem.run_pure];simp
             have hks:n0 * sJ≤n' * sJ:=Nat.mul_le_mul_right _ Fg
             refine⟨e',sJ,n0,_,rfl,S'.defers,_,qD,⟨S'.ext.os,S'.ext.tape,S'.ext.output,hsz,fun b hb hnb=>?_⟩,zs.take (n0 * sJ), ?_, ?_,fun b1 UO=>?_⟩
             ·have PZ:w.heap[b]? = some w.heap[b]:=Array.getElem?_eq_getElem hb
              rw[PZ];exact (hkb b _ ⟨PZ,fun h=>hnb h.symm⟩).1
             ·refine⟨by rw[List.length_take,hzo.1];omega,.inr ⟨b,cap,cur,rfl,Nat.zero_le _,hhb,mY,G6,AI, ?_,pT⟩⟩
              rw[← ht,List.take_take,Nat.min_eq_left hks]
             ·have hz2:fQ (bare h0) Ff zs:=⟨Z0.len,fun i x y hx hy=>(Z0.rel i x y hx hy).Qr (hmf x (List.mem_of_getElem? hx)),Z0.one⟩
              exact hz2.take _
             ·rw[jE pT] at UO;simp only[Option.some.injEq] at UO;subst UO;by_cases h1:cW v0=some b
              ·exact .inl h1
              ·right
               rcases Nat.lt_or_ge b w.heap.size with aY|hge
               ·exfalso
                have PZ:w.heap[b]? = some w.heap[b]:=Array.getElem?_eq_getElem aY
                exact (hkb b _ ⟨PZ,h1⟩).2.2 s k _ hhp hbk
               ·exact hge
            ·cases h
           ·cases h
          ·cases h
         ·cases h
        cases ex with
        | normal=>obtain⟨e',sJ,n',Ff,rfl,h1,v',h2,h3,h4⟩:=fin h;exact⟨h1,v',h2,v',rfl,h3,h4⟩
        | ret=>obtain⟨e',sJ,n',Ff,rfl,h1,v',h2,h3,h4⟩:=fin h;exact⟨h1,v',h2,v',rfl,h3,h4⟩
        | exit id=>cases h
   ·cases h
theorem I0 {h0:Nat→Obj→Prop} {w:World} {x:AV} {v0 v1:Value} {e sz m:Nat} {cs:List AV} {ys:List Value} {nt:Nat} (hh:∀b o,h0 b o→w.heap[b]? = some o) (gN:∀b o,h0 b o→cW v1≠some b) (ho:mP w 0 e sz v1 m ys) (hc:fQ (bare h0) cs ys) (hx:cS (bare h0) x v0) :
 kJ Hs.none h0 w nt (fun s g=>if s=1∧g=0 then v1 else undef) (St.qG x e sz m cs) { tmps:=#[v0,v1]++Array.replicate (nt-(#[v0,v1]:Array Value).size) undef,defers:=[]} w:=by
 have vA:∀s g e',(St.qG x e sz m cs).heap s g=some e'→s=1∧g=0∧e'=.yD e sz m cs:=fun s g e' h=>by
  simp only[St.qG] at h;split at h
  ·rename_i h1;cases h;exact⟨h1.1,h1.2,rfl⟩
  ·cases h
 have k:(bare h0).Le (ctx h0 w (fun s g=>if s=1∧g=0 then v1 else undef) (St.qG x e sz m cs) w) :=
  ⟨fun b o h=>⟨hh b o h,fun _=>h,fun s g e' he=>by
   obtain⟨rfl,rfl,_⟩:=vA _ _ _ he
   exact gN b o h⟩,fun _=>Nat.zero_le _,fun _ _ h=>absurd h (by simp[bare])⟩
 refine⟨fun t=>?_,fun s g e' he=>?_,fun s g s' g' e1 e2 b he yP _ _=>?_,⟨rfl,rfl,rfl,Nat.le_refl _,fun b hb _=>rfl⟩,by simp;omega,rfl,⟨fun x v h=>h.elim,fun b o h=>h.elim,Nat.zero_le _⟩⟩
 ·match t with
  | 0 =>
    have e0:(#[v0,v1]++Array.replicate (nt-(#[v0,v1]:Array Value).size) undef).getD 0 undef=v0:=by
     simp[Array.getElem?_append]
    rw[e0];exact hx.le k
  | 1 =>
    have e0:(#[v0,v1]++Array.replicate (nt-(#[v0,v1]:Array Value).size) undef).getD 1 undef=v1:=by
     simp[Array.getElem?_append]
    rw[e0];have:=cS.own (C:=ctx h0 w (fun s g=>if s=1∧g=0 then v1 else undef) (St.qG x e sz m cs) w) 1 0 (by show 0<(St.qG x e sz m cs).aP 1;simp[St.qG]) (by show (if (1:Nat)=1∧(0:Nat)=0 then v1 else undef).oneCell'=true;simp;exact pS ho)
    have e1:(ctx h0 w (fun s g=>if s=1∧g=0 then v1 else undef) (St.qG x e sz m cs) w).ρ 1 0=v1:=by show (if (1:Nat)=1∧(0:Nat)=0 then v1 else undef)=v1;simp
    rw[e1] at this;exact this
  | t+2 =>
    have e2:(#[v0,v1]++Array.replicate (nt-(#[v0,v1]:Array Value).size) undef).getD (t+2) undef=undef:=by
     rw[Array.getD_eq_getD_getElem?,Array.getElem?_append_right (by simp),Array.getElem?_replicate]
     split<;>rfl
    rw[e2];exact .v _
 ·obtain⟨rfl,rfl,rfl⟩:=vA _ _ _ he
  refine⟨by simp[St.qG],by simp;exact pS ho, ?_⟩
  simp only[and_self,if_true];exact⟨ys,ho,hc.le k⟩
 ·obtain⟨rfl,rfl,_⟩:=vA _ _ _ he
  obtain⟨rfl,rfl,_⟩:=vA _ _ _ yP
  exact⟨rfl,rfl⟩
theorem EH {xs:List AV} {u:AV × Nat × Nat × Nat × List AV} (h:sM xs=some u):xs=[u.1,.uniq u.2.1 u.2.2.1 u.2.2.2.1 u.2.2.2.2]:=by
 unfold sM at h;split at h
 ·simp only[Option.some.injEq] at h;subst h;rfl
 ·cases h
theorem aAl (hm:P.follows .mixedOrders=true) {call:Nat→List AV→Option AV} {inl:Nat→List AV→St→Option (AV × St)} (iX:pJ P call) (Lq:Vl P inl) {n g:Nat} {xs:List AV} {u:AV × Nat × Nat × Nat × List AV} (hh:qO xs=none) (hq:sM xs=some u) {r:AV}
 (h:Xv P call inl n g u.1 u.2.1 u.2.2.1 u.2.2.2.1 u.2.2.2.2=some r):xU P g∧Ah P g xs r:=by
 have DS:=EH hq
 subst DS;obtain⟨x,e,sz,m,cs⟩:=u
 simp only at h hh ⊢
 unfold Xv at h;cases hf:P.funcs[g]? with
 | none=>simp[hf] at h
 | some fn =>
   simp only[hf] at h;split at h
   ·rename_i oR;cases hb:fn.body with
    | none=>simp[hb] at h
    | some c =>
      simp only[hb] at h;simp only[sL,Xu,hb,Bool.and_eq_true,bne_iff_ne,ne_eq] at oR;refine⟨⟨fn,hf,by simpa using oR.1,by simp[hb]⟩, ?_⟩
      have hX:WW P g x e sz m cs r→Ah P g [x,.uniq e sz m cs] r:=fun h=>by
       unfold Ah;split
       ·rename_i heq;cases heq
        cases hh
       ·rename_i heq;cases heq
        exact h
       ·rename_i h1 h2;exact absurd rfl (h2 _ _ _ _ _)
      refine hX fun w h0 v0 v1 ys hh gN ho Ay eY=>?_
      cases h1:tY P (lP c) call inl n c (St.qG x e sz m cs) with
      | none=>simp[h1,cH] at h
      | some es =>
        obtain⟨ex,sf⟩:=es
        simp only[h1,cH] at h;refine calls_of_wp hf hb ?_
        refine oP hm iX Lq n c (St.qG x e sz m cs) sf ex _ _ w _ oR.2 (I0 hh gN ho Ay eY) h1 fun nY a' w' S'=>?_
        have fin:iY P g fn sf=some r→a'.defers=[]∧∃v,(results fn a'.tmps).run P w'=.ok v w'∧∃v',Ending.returned v=.returned v'∧AH h0 w w' r v'∧w.grownBy w' none:=fun h=>by
         obtain⟨v,hv,hr⟩:=Mk S' h
         exact⟨S'.defers,v,hv,v,rfl,hr,S'.ext⟩
        cases ex with
        | normal=>exact fin h
        | ret=>exact fin h
        | exit id=>cases h
   ·cases h
theorem v7 (hm:P.follows .mixedOrders=true) (hx:HH P):∀n,pJ P (Lz P n)∧Vl P (Wz P n)
 | 0=>⟨fun g xs r h=>hx g xs r h,fun g xs st r s' h=>by cases h⟩
 | n+1=>by
   obtain⟨ihc,ihi⟩:=v7 hm hx n
   refine⟨fun g xs r h=>?_,fun g xs st r s' h=>?_⟩
   ·rw[uB] at h;split at h
    ·rename_i r' he
     simp only[Option.some.injEq] at h;subst h;exact hx g xs _ he
    ·cases hq:qO xs with
     | some u =>
       simp only[hq] at h;exact aCT hm ihc ihi hq h
     | none =>
     simp only[hq] at h;cases hql:sM xs with
     | some u =>
       simp only[hql] at h;exact aAl hm ihc ihi hq hql h
     | none =>
     simp only[hql] at h;split at h
     ·cases h
     rename_i hnu;unfold A4 at h;cases hf:P.funcs[g]? with
     | none=>simp[hf] at h
     | some fn =>
       simp only[hf] at h;split at h
       ·rename_i oR;cases hb:fn.body with
        | none=>simp[hb] at h
        | some c =>
          simp only[hb] at h;simp only[sL,Xu,hb,Bool.and_eq_true,bne_iff_ne,ne_eq] at oR;have hX:Tg P g xs r→Ah P g xs r:=fun h=>by
           unfold Ah;split
           ·simp[nM] at hnu
           ·simp[nM] at hnu
           ·exact h
          refine⟨⟨fn,hf,by simpa using oR.1,by simp[hb]⟩,hX fun w h0 vs hh eY=>?_⟩
          cases h1:tY P (lP c) (Lz P n) (Wz P n) n c (St.init xs) with
          | none=>simp[h1,cH] at h
          | some es =>
            obtain⟨ex,sf⟩:=es
            simp only[h1,cH] at h;refine calls_of_wp hf hb ?_
            refine oP hm ihc ihi n c (St.init xs) sf ex _ _ w _ oR.2 (aAk hh eY) h1 fun nY a' w' S'=>?_
            have fin:iY P g fn sf=some r→a'.defers=[]∧∃v,(results fn a'.tmps).run P w'=.ok v w'∧∃v',Ending.returned v=.returned v'∧AH h0 w w' r v'∧w.grownBy w' none:=fun h=>by
             obtain⟨v,hv,hr⟩:=Mk S' h
             exact⟨S'.defers,v,hv,v,rfl,hr,S'.ext⟩
            cases ex with
            | normal=>exact fin h
            | ret=>exact fin h
            | exit id=>cases h
       ·cases h
   ·rw[Pd] at h;unfold A5 at h;cases hf:P.funcs[g]? with
    | none=>simp[hf] at h
    | some fn =>
      simp only[hf] at h;split at h
      ·rename_i oR;cases hb:fn.body with
       | none=>simp[hb] at h
       | some c =>
         simp only[hb] at h;simp only[Xu,hb,Bool.and_eq_true,bne_iff_ne,ne_eq] at oR;refine⟨⟨fn,hf,by simpa using oR.1,by simp[hb]⟩,fun F h0 w0 nt ρ a w vs K S eY hK=>?_⟩
         cases h1:tY P true (Lz P n) (Wz P n) n c ((St.init xs).back st) with
         | none=>simp[h1,cH] at h
         | some es =>
           obtain⟨ex,sf⟩:=es
           simp only[h1,cH] at h;refine calls_of_wp hf hb ?_
           refine oP (F:=⟨fun x v=>F.fr x v∨∃t,x=st.env t∧v=a.tmps.getD t undef,F.hb,F.sz⟩) hm ihc ihi n c ((St.init xs).back st) sf ex _ _ w _ oR.2 (aCS S eY) h1 fun nY a' w' S'=>?_
           have fin:((Bf P fn sf).map fun x=>(x,sf))=some (r,s')→a'.defers=[]∧∃v,(results fn a'.tmps).run P w'=.ok v w'∧∃v',Ending.returned v=.returned v'∧K v' w':=fun h=>by
            cases hfi:Bf P fn sf with
            | none=>simp[hfi] at h
            | some x =>
              simp only[hfi,Option.map_some,Option.some.injEq,Prod.mk.injEq] at h;obtain⟨rfl,rfl⟩:=h
              obtain⟨v,hv,hr⟩:=EF S' hfi
              refine⟨S'.defers,v,hv,v,rfl,hK nY w' v ?_ hr⟩
              exact⟨fun t=>S'.Ov.1 _ _ (.inr ⟨t,rfl,rfl⟩),fun s g e he=>S'.sF s g e he,fun s g s2 g' e e' b he yP=>S'.inj s g s2 g' e e' b he yP,S'.ext,S.size,S.defers,⟨fun x v h=>S'.Ov.1 x v (.inl h),S'.Ov.2.1,S'.Ov.2.2⟩⟩
           cases ex with
           | normal=>exact fin h
           | ret=>exact fin h
           | exit id=>cases h
      ·cases h
theorem aAm (hm:P.follows .mixedOrders=true) (hx:HH P) (n:Nat):pJ P (Lz P n):=(v7 hm hx n).1
end
end Go.Ab
end
section
namespace Go.Ab
open Classical
variable [Ext]
noncomputable def mD {α:Type} (g:Nat→Option α):Option α:=if h:∃n r,g n=some r then some (Classical.choose (Classical.choose_spec h)) else none
theorem Xm {α:Type} {g:Nat→Option α} (hm:∀n r,g n=some r→g (n+1)=some r) {n m:Nat} (h:n≤m) {r:α} (hr:g n=some r):g m=some r:=by
 induction m with
 | zero=>have:n=0:=by omega
         subst this;exact hr
 | succ m ih =>
   rcases Nat.lt_or_ge m n with h'|h'
   ·have:n=m+1:=by omega
    subst this;exact hr
   ·exact hm m r (ih h')
theorem KO {α:Type} {g:Nat→Option α} (hm:∀n r,g n=some r→g (n+1)=some r) (r:α):mD g=some r↔∃n,g n=some r:=by
 unfold mD;constructor
 ·intro h;split at h
  ·rename_i hh;simp only[Option.some.injEq] at h;exact⟨Classical.choose hh,by rw[← h];exact Classical.choose_spec (Classical.choose_spec hh)⟩
  ·cases h
 ·rintro⟨n,hn⟩
  have hh:∃n r,g n=some r:=⟨n,r,hn⟩
  rw[dif_pos hh];have h2:=Classical.choose_spec (Classical.choose_spec hh)
  congr 1
  rcases Nat.le_total n (Classical.choose hh) with hle|hle
  ·have:=Xm hm hle hn
   rw[h2] at this;exact Option.some.inj this
  ·have:=Xm hm hle h2
   rw[hn] at this;exact (Option.some.inj this).symm
theorem eM {α β:Type} {x:Option α} {f:α→Option β} {r:β}:cH x f=some r↔∃a,x=some a∧f a=some r:=by
 cases x<;>simp[cH]
def BD (i i':Nat→List AV→St→Option (AV × St)):Prop:=∀g xs st r,i g xs st=some r→i' g xs st=some r
def uP (c c':Nat→List AV→Option AV):Prop:=∀g xs r,c g xs=some r→c' g xs=some r
section
variable (P:Program) {c c':Nat→List AV→Option AV} {i i':Nat→List AV→St→Option (AV × St)} {bi:Bool}
theorem BE {α β:Type} {x y:Option α} {f:α→Option β} {r:β} (h:∀a,x=some a→y=some a) (hx:cH x f=some r):cH y f=some r:=by
 cases Ke:x with
 | none=>simp[Ke,cH] at hx
 | some a=>rw[h a Ke];rw[Ke] at hx;exact hx
theorem xF (h:uP c c') {g:Nat} {args:List AV} {st:St} {dst:Option Nat} {e:qE} (he:aM c g args st dst=some e):aM c' g args st dst=some e:=by
 unfold aM at *
 split at he
 ·rename_i hf;rw[if_pos hf];exact BE (h g args) he
 ·rename_i hf;rw[if_neg hf];split at he
  ·rename_i xs DS;exact BE (h g xs) he
  ·cases he
theorem QQ (h:uP c c') {g:Nat} {args:List AV} {st:St} {dst:Option Nat} {e:qE} (he:lI c g args st dst=some e):lI c' g args st dst=some e:=by
 unfold lI at *
 split at he
 ·split at he
  ·rename_i e0 sz n cs hh;split at he
   ·rename_i hc;rename_i rest _;simp only[hh,if_pos hc];cases hr:c g (.uniq e0 sz n cs :: rest) with
    | none=>simp[hr] at he
    | some r=>rw[h _ _ _ hr];rw[hr] at he;exact he
   ·cases he
  ·cases he
 ·split at he
  ·rename_i hc;rw[if_pos hc];exact xF h he
  ·cases he
theorem KP (h:uP c c') {g:Nat} {args:List AV} {st:St} {dst:Option Nat} {e:qE} (he:eI c g args st dst=some e):eI c' g args st dst=some e:=by
 unfold eI at *
 split at he
 ·rename_i s k hk;split at he
  ·rename_i oR;rw[if_pos oR];split at he
   ·rename_i xs DS;exact BE (h g xs) he
   ·cases he
  ·cases he
 ·rename_i hk;exact xF h he
theorem QR (h:uP c c') {g:Nat} {args:List AV} {st:St} {dst:Option Nat} {e:qE} (he:nK c g args st dst=some e):nK c' g args st dst=some e:=by
 unfold nK at *
 split at he
 ·split at he
  ·split at he
   ·rename_i hc;rw[if_pos hc];split at he
    ·rename_i r hr;rw[h _ _ _ hr];exact he
    ·cases he
   ·cases he
  ·cases he
 ·rename_i hn;split at he
  ·rename_i hc;rw[if_pos hc];exact xF h he
  ·cases he
theorem KQ (h:uP c c') {f:Operand} {args:List AV} {st:St} {dst:Option Nat} {e:qE} (he:mX c f args st dst=some e):mX c' f args st dst=some e:=by
 cases f
 case func g =>
  simp only[mX] at *
  by_cases hm:Ext.mv g=true
  ·rw[if_pos hm] at *
   exact QQ h he
  ·rw[if_neg hm] at *
   by_cases R5:Ext.eat g dst=true
   ·rw[if_pos R5] at *
    exact KP h he
   ·rw[if_neg R5] at *
    by_cases hm3:Ext.A3 g dst=true
    ·rw[if_pos hm3] at *
     exact QR h he
    ·rw[if_neg hm3] at *
     exact xF h he
 all_goals
  simp only[mX] at *
  split at he
  ·exact xF h he
  ·cases he
theorem XO (h:uP c c') {o:Oper} {st:St} {e:qE} (he:dG P c o st=some e):dG P c' o st=some e:=by
 obtain⟨dst,op,type,pos,after,guard⟩:=o
 cases op
 case call cl =>
  simp only[dG] at *
  unfold gZ at *
  split at he
  ·exact KQ h he
  all_goals exact he
 case makeMap T r=>cases r<;>exact he
 all_goals exact he
theorem I1 (h:uP c c') {ops:Array Oper} {o:Oper} {st s:St} (he:cD P c ops o st=some s):cD P c' ops o st=some s:=by
 unfold cD at *
 split at he
 ·split at he
  ·rename_i b hg hb;rw[if_pos hb];cases h1:dG P c o st with
   | none=>simp[h1] at he
   | some e=>rw[XO P h h1];rw[h1] at he;exact he
  ·rename_i b hg hb;rw[if_neg hb];exact he
 ·cases he
theorem BF (h:uP c c') (hi:BD i i') {ops:Array Oper} {o:Oper} {st s:St} (he:gS P bi c i ops o st=some s):gS P bi c' i' ops o st=some s:=by
 unfold gS at he ⊢
 cases hg:(if bi=true then Gt o else none) with
 | none =>
   simp only[hg] at he ⊢;exact I1 P h he
 | some ga =>
   obtain⟨g,args⟩:=ga
   simp only[hg] at he ⊢;cases hgv:gv ops st o.guard with
   | none=>simp[hgv] at he
   | some t =>
     simp only[hgv] at he ⊢;cases t with
     | false=>exact he
     | true =>
       simp only[if_true] at he ⊢;cases h1:i g (args.map st.ev) st with
       | none=>simp[h1] at he
       | some r=>rw[hi _ _ _ _ h1];rw[h1] at he;exact he
theorem Cc (h:uP c c') (hi:BD i i') {ops:Array Oper}:∀(l:List Oper) {st s:St},mJ P bi c i ops l st=some s→mJ P bi c' i' ops l st=some s
 | [],st,s,he=>he
 | o :: l,st,s,he=>by
   simp only[mJ] at *
   obtain⟨s1,h1,h2⟩:=eM.1 he
   exact eM.2 ⟨s1,BF P h hi h1,Cc h hi l h2⟩
theorem mL (h:uP c c') (hi:BD i i'):∀(n m:Nat),n≤m→∀(x:Code) (st:St) (r:Ex × St),tY P bi c i n x st=some r→tY P bi c' i' m x st=some r
 | 0,_,_,_,_,_,he=>by simp[tY] at he
 | n+1,0,hle,_,_,_,_=>by omega
 | n+1,m+1,hle,x,st,r,he=>by
   have ih:=mL h hi n m (by omega)
   cases x<;>simp only[tY] at he ⊢<;>(try exact he)
   case region id ops draw =>
    obtain⟨s1,h1,h2⟩:=eM.1 he
    exact eM.2 ⟨s1,Cc P h hi _ h1,h2⟩
   case seq a b =>
    obtain⟨⟨e1,s1⟩,h1,h2⟩:=eM.1 he
    refine eM.2 ⟨(e1,s1),ih _ _ _ h1, ?_⟩
    cases e1 with
    | normal=>exact ih _ _ _ h2
    | _=>exact h2
   case cond cc a b =>
    split at he
    ·split at he
     ·rename_i hb;rw[if_pos hb];exact ih _ _ _ he
     ·rename_i hb;rw[if_neg hb];exact ih _ _ _ he
    ·cases he
   case block id b =>
    obtain⟨r1,h1,h2⟩:=eM.1 he
    exact eM.2 ⟨r1,ih _ _ _ h1,h2⟩
   case loop b =>
    obtain⟨⟨e1,s1⟩,h1,h2⟩:=eM.1 he
    refine eM.2 ⟨(e1,s1),ih _ _ _ h1, ?_⟩
    cases e1 with
    | normal=>exact ih _ _ _ h2
    | _=>exact h2
theorem Tr:∀n,uP (Lz P n) (Lz P (n+1))∧BD (Wz P n) (Wz P (n+1))
 | 0=>⟨fun g xs r h=>by
   rw[Pc] at h;rw[uB,h],fun g xs st r h=>by cases h⟩
 | n+1=>by
   obtain⟨ih,ii⟩:=Tr n
   refine⟨fun g xs r h=>?_,fun g xs st r h=>?_⟩
   ·rw[uB] at h ⊢;cases he:Ext.ext g xs with
    | some r'=>rw[he] at h;exact h
    | none =>
      simp only[he] at h;simp only
      cases hq:qO xs with
      | some u =>
        simp only[hq] at h;simp only
        unfold runM at h ⊢
        split at h
        ·split at h
         ·rename_i oR;rw[if_pos oR];split at h
          ·obtain⟨r1,h1,h2⟩:=eM.1 h
           exact eM.2 ⟨r1,mL P ih ii n (n+1) (by omega) _ _ _ h1,h2⟩
          ·cases h
         ·cases h
        ·cases h
      | none =>
        simp only[hq] at h;simp only
        cases hql:sM xs with
        | some u =>
          simp only[hql] at h;simp only
          unfold Xv at h ⊢
          split at h
          ·split at h
           ·rename_i oR;rw[if_pos oR];split at h
            ·obtain⟨r1,h1,h2⟩:=eM.1 h
             exact eM.2 ⟨r1,mL P ih ii n (n+1) (by omega) _ _ _ h1,h2⟩
            ·cases h
           ·cases h
          ·cases h
        | none =>
        simp only[hql] at h;simp only
        by_cases hu:xs.any nM=true
        ·rw[if_pos hu] at h;cases h
        ·rw[if_neg hu] at h ⊢;unfold A4 at h ⊢
         split at h
         ·split at h
          ·rename_i oR;rw[if_pos oR];split at h
           ·obtain⟨r1,h1,h2⟩:=eM.1 h
            exact eM.2 ⟨r1,mL P ih ii n (n+1) (by omega) _ _ _ h1,h2⟩
           ·cases h
          ·cases h
         ·cases h
   ·rw[Pd] at h ⊢;unfold A5 at h ⊢
    split at h
    ·split at h
     ·rename_i oR;rw[if_pos oR];split at h
      ·obtain⟨r1,h1,h2⟩:=eM.1 h
       exact eM.2 ⟨r1,mL P ih ii n (n+1) (by omega) _ _ _ h1,h2⟩
      ·cases h
     ·cases h
    ·cases h
theorem BG (n:Nat):uP (Lz P n) (Lz P (n+1)):=(Tr P n).1
theorem BH (n:Nat):BD (Wz P n) (Wz P (n+1)):=(Tr P n).2
theorem Al {n m:Nat} (h:n≤m):uP (Lz P n) (Lz P m):=fun g xs r hr =>
 Xm (g:=fun n=>Lz P n g xs) (fun n r=>BG P n g xs r) h hr
theorem Am {n m:Nat} (h:n≤m):BD (Wz P n) (Wz P m):=fun g xs st r hr =>
 Xm (g:=fun n=>Wz P n g xs st) (fun n r=>BH P n g xs st r) h hr
noncomputable def aC (f:Nat) (xs:List AV):Option AV:=mD fun n=>Lz P n f xs
noncomputable def Dr (f:Nat) (xs:List AV) (st:St):Option (AV × St):=mD fun n=>Wz P n f xs st
noncomputable def wQ (bi:Bool) (x:Code) (st:St):Option (Ex × St):=mD fun n=>tY P bi (Lz P n) (Wz P n) n x st
theorem rS {f:Nat} {xs:List AV} {r:AV}:aC P f xs=some r↔∃n,Lz P n f xs=some r:=KO (fun n r=>BG P n f xs r) r
theorem BI {f:Nat} {xs:List AV} {st:St} {r:AV × St}:Dr P f xs st=some r↔∃n,Wz P n f xs st=some r:=KO (fun n r=>BH P n f xs st r) r
theorem gG {x:Code} {st:St} {r:Ex × St}:wQ P bi x st=some r↔∃n m,tY P bi (Lz P n) (Wz P n) m x st=some r:=by
 unfold wQ;rw[KO (fun n r=>mL P (BG P n) (BH P n) n (n+1) (by omega) x st r)]
 constructor
 ·rintro⟨n,h⟩;exact⟨n,n,h⟩
 ·rintro⟨n,m,h⟩
  exact⟨max n m,mL P (Al P (Nat.le_max_left n m)) (Am P (Nat.le_max_left n m)) m _ (Nat.le_max_right n m) x st r h⟩
theorem AF (hm:P.follows .mixedOrders=true) (hx:HH P) {f:Nat} {xs:List AV} {r:AV} (h:aC P f xs=some r):Ah P f xs r:=by
 obtain⟨n,hn⟩:=(rS P).1 h
 exact (aAm hm hx n f xs r hn).2
theorem aCU (n:Nat):BD (Wz P n) (Dr P):=fun g xs st r h=>(BI P).2 ⟨n,h⟩
theorem aAn (n:Nat):uP (Lz P n) (aC P):=fun g xs r h=>(rS P).2 ⟨n,h⟩
theorem KR {β:Type} {g:Nat} {xs:List AV} {f:AV→Option β} {r:β} (h:cH (aC P g xs) f=some r):∃n,cH (Lz P n g xs) f=some r:=by
 obtain⟨a,h1,h2⟩:=eM.1 h
 obtain⟨n,hn⟩:=(rS P).1 h1
 exact⟨n,eM.2 ⟨a,hn,h2⟩⟩
theorem An {g:Nat} {args:List AV} {st:St} {dst:Option Nat} {e:qE} (h:aM (aC P) g args st dst=some e):∃n,aM (Lz P n) g args st dst=some e:=by
 unfold aM at h ⊢
 split at h
 ·rename_i hf;obtain⟨n,hn⟩:=KR P h
  exact⟨n,by rw[if_pos hf];exact hn⟩
 ·rename_i hf;split at h
  ·rename_i xs DS;obtain⟨n,hn⟩:=KR P h
   exact⟨n,by rw[if_neg hf];exact hn⟩
  ·cases h
theorem XP {g:Nat} {args:List AV} {st:St} {dst:Option Nat} {e:qE} (h:lI (aC P) g args st dst=some e):∃n,lI (Lz P n) g args st dst=some e:=by
 unfold lI at h ⊢
 split at h
 ·rename_i s k rest;split at h
  ·rename_i e0 sz n cs hh;split at h
   ·rename_i hc;simp only[hh,if_pos hc];cases hr:aC P g (.uniq e0 sz n cs :: rest) with
    | none=>simp[hr] at h
    | some r =>
      obtain⟨m,hm⟩:=(rS P).1 hr
      exact⟨m,by rw[hm];rw[hr] at h;exact h⟩
   ·cases h
  ·cases h
 ·split at h
  ·rename_i hc;simp only[if_pos hc];exact An P h
  ·cases h
theorem QS {g:Nat} {args:List AV} {st:St} {dst:Option Nat} {e:qE} (h:eI (aC P) g args st dst=some e):∃n,eI (Lz P n) g args st dst=some e:=by
 unfold eI at h ⊢
 split at h
 ·rename_i s k hk;split at h
  ·rename_i oR;simp only[if_pos oR];split at h
   ·rename_i xs DS;exact KR P h
   ·cases h
  ·cases h
 ·rename_i hk;obtain⟨n,hn⟩:=An P h
  exact⟨n,hn⟩
theorem XQ {g:Nat} {args:List AV} {st:St} {dst:Option Nat} {e:qE} (h:nK (aC P) g args st dst=some e):∃n,nK (Lz P n) g args st dst=some e:=by
 unfold nK at h ⊢
 split at h
 ·split at h
  ·split at h
   ·rename_i hc;split at h
    ·rename_i r hr;obtain⟨n,hn⟩:=(rS P).1 hr
     exact⟨n,by rw[if_pos hc,hn];exact h⟩
    ·cases h
   ·cases h
  ·cases h
 ·split at h
  ·rename_i hc;obtain⟨n,hn⟩:=An P h
   exact⟨n,by rw[if_pos hc];exact hn⟩
  ·cases h
theorem I2 {o:Oper} {st:St} {e:qE} (h:dG P (aC P) o st=some e):∃n,dG P (Lz P n) o st=some e:=by
 obtain⟨dst,op,type,pos,after,guard⟩:=o
 cases op
 case call cl =>
  simp only[dG] at *
  unfold gZ at *
  split at h
  ·unfold mX at h ⊢
   split at h
   ·split at h
    ·rename_i hm;obtain⟨n,hn⟩:=XP P h
     exact⟨n,by simp only[hm,if_true];exact hn⟩
    ·rename_i hm;split at h
     ·rename_i R5;obtain⟨n,hn⟩:=QS P h
      exact⟨n,by rw[if_neg hm,if_pos R5];exact hn⟩
     ·rename_i R5;split at h
      ·rename_i hm3;obtain⟨n,hn⟩:=XQ P h
       exact⟨n,by rw[if_neg hm,if_neg R5,if_pos hm3];exact hn⟩
      ·rename_i hm3;obtain⟨n,hn⟩:=An P h
       exact⟨n,by rw[if_neg hm,if_neg R5,if_neg hm3];exact hn⟩
   ·split at h
    ·exact An P h
    ·cases h
  all_goals exact⟨0,h⟩
 case makeMap T r=>cases r<;>exact⟨0,h⟩
 all_goals exact⟨0,h⟩
theorem aAo {ops:Array Oper} {o:Oper} {st s:St} (h:cD P (aC P) ops o st=some s):∃n,cD P (Lz P n) ops o st=some s:=by
 unfold cD at *
 split at h
 ·split at h
  ·rename_i b hg hb;cases h1:dG P (aC P) o st with
   | none=>simp[h1] at h
   | some e =>
     obtain⟨n,hn⟩:=I2 P h1
     refine⟨n, ?_⟩
     rw[if_pos hb,hn];rw[h1] at h;exact h
  ·rename_i b hg hb;exact⟨0,by rw[if_neg hb];exact h⟩
 ·cases h
theorem I3 {ops:Array Oper} {o:Oper} {st s:St} (h:gS P bi (aC P) (Dr P) ops o st=some s):∃n,gS P bi (Lz P n) (Wz P n) ops o st=some s:=by
 unfold gS at h ⊢
 cases hg:(if bi=true then Gt o else none) with
 | none =>
   simp only[hg] at h ⊢;exact aAo P h
 | some ga =>
   obtain⟨g,args⟩:=ga
   simp only[hg] at h ⊢;cases hgv:gv ops st o.guard with
   | none=>simp[hgv] at h
   | some t =>
     simp only[hgv] at h ⊢;cases t with
     | false=>exact⟨0,h⟩
     | true =>
       simp only[if_true] at h ⊢;cases h1:Dr P g (args.map st.ev) st with
       | none=>simp[h1] at h
       | some r =>
         obtain⟨n,hn⟩:=(BI P).1 h1
         refine⟨n, ?_⟩
         rw[h1] at h;rw[hn];exact h
theorem BJ {ops:Array Oper}:∀(l:List Oper) {st s:St},mJ P bi (aC P) (Dr P) ops l st=some s→∃n,mJ P bi (Lz P n) (Wz P n) ops l st=some s
 | [],st,s,h=>⟨0,h⟩
 | o :: l,st,s,h=>by
   simp only[mJ] at *
   obtain⟨s1,h1,h2⟩:=eM.1 h
   obtain⟨n,hn⟩:=I3 P h1
   obtain⟨m,hm⟩:=BJ l h2
   exact⟨max n m,eM.2 ⟨s1,BF P (Al P (Nat.le_max_left n m)) (Am P (Nat.le_max_left n m)) hn,Cc P (Al P (Nat.le_max_right n m)) (Am P (Nat.le_max_right n m)) l hm⟩⟩
theorem Rb {cc:Nat→List AV→Option AV} {ii:Nat→List AV→St→Option (AV × St)} {ops:Array Oper}:∀(l:List Oper) (st:St),mJ P false cc ii ops l st=Oy P cc ops l st
 | [],st=>rfl
 | o :: l,st=>by
   have e:∀s,gS P false cc ii ops o s=cD P cc ops o s:=fun s=>rfl
   unfold mJ Oy;rw[e];congr 1
   funext s
   exact Rb l s
theorem QT (st:St):wQ P bi .skip st=some (.normal,st):=(gG P).2 ⟨0,1,rfl⟩
theorem QU (id:Nat) (st:St):wQ P bi (.exit id) st=some (.exit id,st):=(gG P).2 ⟨0,1,rfl⟩
theorem v8 (st:St):wQ P bi .ret st=some (.ret,st):=(gG P).2 ⟨0,1,rfl⟩
theorem BK (id:Nat) (ops:Array Oper) (d:Bool) (st:St):wQ P bi (.region id ops d) st=cH (mJ P bi (aC P) (Dr P) ops ops.toList st) fun s=>if bi=true∧¬qF ops s (Ext.dyn id ops.size (sK ops)) then none else some (.normal,s):=by
 apply Option.ext
 intro r;rw[gG,eM];constructor
 ·rintro⟨n,m,h⟩
  cases m with
  | zero=>simp[tY] at h
  | succ m =>
    simp only[tY] at h;obtain⟨s1,h1,h2⟩:=eM.1 h
    exact⟨s1,Cc P (aAn P n) (aCU P n) _ h1,h2⟩
 ·rintro⟨s1,h1,h2⟩
  obtain⟨n,hn⟩:=BJ P _ h1
  exact⟨n,1,by simp only[tY];exact eM.2 ⟨s1,hn,h2⟩⟩
def BL (r:Ex × St) (k:St→Option (Ex × St)):Option (Ex × St) :=
 match r.1 with
 | .normal=>k r.2
 | e=>some (e,r.2)
theorem JC (a b:Code) (st:St):wQ P bi (.seq a b) st=cH (wQ P bi a st) fun r=>BL r (wQ P bi b):=by
 apply Option.ext
 intro r;rw[gG,eM];constructor
 ·rintro⟨n,m,h⟩
  cases m with
  | zero=>simp[tY] at h
  | succ m =>
    simp only[tY] at h;obtain⟨⟨e1,s1⟩,h1,h2⟩:=eM.1 h
    refine⟨(e1,s1),(gG P).2 ⟨n,m,h1⟩, ?_⟩
    cases e1 with
    | normal=>exact (gG P).2 ⟨n,m,h2⟩
    | _=>exact h2
 ·rintro⟨⟨e1,s1⟩,h1,h2⟩
  obtain⟨n1,m1,h1⟩:=(gG P).1 h1
  cases e1 with
  | normal =>
    obtain⟨n2,m2,h2⟩:=(gG P).1 h2
    refine⟨max n1 n2,max m1 m2+1, ?_⟩
    simp only[tY];exact eM.2 ⟨(.normal,s1),mL P (Al P (Nat.le_max_left _ _)) (Am P (Nat.le_max_left _ _)) _ _ (Nat.le_max_left _ _) _ _ _ h1,mL P (Al P (Nat.le_max_right _ _)) (Am P (Nat.le_max_right _ _)) _ _ (Nat.le_max_right _ _) _ _ _ h2⟩
  | exit id=>exact⟨n1,m1+1,by simp only[tY];exact eM.2 ⟨(.exit id,s1),h1,h2⟩⟩
  | ret=>exact⟨n1,m1+1,by simp only[tY];exact eM.2 ⟨(.ret,s1),h1,h2⟩⟩
theorem QV (b:Code) (st:St):wQ P bi (.loop b) st=cH (wQ P bi b st) fun r=>BL r (wQ P bi (.loop b)):=by
 apply Option.ext
 intro r;rw[gG,eM];constructor
 ·rintro⟨n,m,h⟩
  cases m with
  | zero=>simp[tY] at h
  | succ m =>
    simp only[tY] at h;obtain⟨⟨e1,s1⟩,h1,h2⟩:=eM.1 h
    refine⟨(e1,s1),(gG P).2 ⟨n,m,h1⟩, ?_⟩
    cases e1 with
    | normal=>exact (gG P).2 ⟨n,m,h2⟩
    | _=>exact h2
 ·rintro⟨⟨e1,s1⟩,h1,h2⟩
  obtain⟨n1,m1,h1⟩:=(gG P).1 h1
  cases e1 with
  | normal =>
    obtain⟨n2,m2,h2⟩:=(gG P).1 h2
    refine⟨max n1 n2,max m1 m2+1, ?_⟩
    simp only[tY];exact eM.2 ⟨(.normal,s1),mL P (Al P (Nat.le_max_left _ _)) (Am P (Nat.le_max_left _ _)) _ _ (Nat.le_max_left _ _) _ _ _ h1,mL P (Al P (Nat.le_max_right _ _)) (Am P (Nat.le_max_right _ _)) _ _ (Nat.le_max_right _ _) _ _ _ h2⟩
  | exit id=>exact⟨n1,m1+1,by simp only[tY];exact eM.2 ⟨(.exit id,s1),h1,h2⟩⟩
  | ret=>exact⟨n1,m1+1,by simp only[tY];exact eM.2 ⟨(.ret,s1),h1,h2⟩⟩
theorem HR (id:Nat) (b:Code) (st:St):wQ P bi (.block id b) st=cH (wQ P bi b st) fun r=>some (r.1.inBlock id,r.2):=by
 apply Option.ext
 intro r;rw[gG,eM];constructor
 ·rintro⟨n,m,h⟩
  cases m with
  | zero=>simp[tY] at h
  | succ m =>
    simp only[tY] at h;obtain⟨r1,h1,h2⟩:=eM.1 h
    exact⟨r1,(gG P).2 ⟨n,m,h1⟩,h2⟩
 ·rintro⟨r1,h1,h2⟩
  obtain⟨n1,m1,h1⟩:=(gG P).1 h1
  exact⟨n1,m1+1,by simp only[tY];exact eM.2 ⟨r1,h1,h2⟩⟩
theorem QW (c:Operand) (a b:Code) (st:St) {t:Bool} (hc:st.ev c=.v (.bool t)):wQ P bi (.cond c a b) st=if t=true then wQ P bi a st else wQ P bi b st:=by
 apply Option.ext
 intro r;rw[gG];constructor
 ·rintro⟨n,m,h⟩
  cases m with
  | zero=>simp[tY] at h
  | succ m =>
    simp only[tY,hc] at h;split at h
    ·rename_i hb;rw[if_pos hb];exact (gG P).2 ⟨n,m,h⟩
    ·rename_i hb;rw[if_neg hb];exact (gG P).2 ⟨n,m,h⟩
 ·intro h;split at h
  ·rename_i hb;obtain⟨n,m,h⟩:=(gG P).1 h
   exact⟨n,m+1,by simp only[tY,hc];rw[if_pos hb];exact h⟩
  ·rename_i hb;obtain⟨n,m,h⟩:=(gG P).1 h
   exact⟨n,m+1,by simp only[tY,hc];rw[if_neg hb];exact h⟩
noncomputable def yS (x:Code) (st:St):Option (Ex × St):=wQ P false x st
theorem v9 {x:Code} {st:St} {r:Ex × St}:yS P x st=some r↔∃n m,tY P false (Lz P n) (Wz P n) m x st=some r:=gG P
theorem Eb (st:St):yS P .skip st=some (.normal,st):=QT P st
theorem Ec (id:Nat) (st:St):yS P (.exit id) st=some (.exit id,st):=QU P id st
theorem Km (st:St):yS P .ret st=some (.ret,st):=v8 P st
theorem wC (id:Nat) (ops:Array Oper) (d:Bool) (st:St):yS P (.region id ops d) st=cH (Oy P (aC P) ops ops.toList st) fun s=>some (.normal,s):=by
 rw[← Rb P (ii:=Dr P)];have h:=BK P (bi:=false) id ops d st
 simp only[Bool.false_eq_true,false_and,if_false] at h;exact h
theorem Ko (a b:Code) (st:St):yS P (.seq a b) st=cH (yS P a st) fun r=>BL r (yS P b):=JC P a b st
theorem Ib (b:Code) (st:St):yS P (.loop b) st=cH (yS P b st) fun r=>BL r (yS P (.loop b)):=QV P b st
theorem zA (id:Nat) (b:Code) (st:St):yS P (.block id b) st=cH (yS P b st) fun r=>some (r.1.inBlock id,r.2):=HR P id b st
theorem aAp (c:Operand) (a b:Code) (st:St) {t:Bool} (hc:st.ev c=.v (.bool t)):yS P (.cond c a b) st=if t=true then yS P a st else yS P b st:=QW P c a b st hc
noncomputable def yG (f:Nat) (fn:Func) (r:Ex × St):Option AV :=
 match r.1 with
 | .exit _=>none
 | _=>iY P f fn r.2
def bF (fn:Func):Bool:=sL fn && (match fn.body with|some c=>!lP c|none=>true)
theorem Ml {xs:List AV} (h:xs.any nM=false):qO xs=none:=by
 cases xs with
 | nil=>rfl
 | cons x xs =>
   cases x<;>first|rfl|simp[nM] at h
theorem Mm {xs:List AV} (h:xs.any nM=false):sM xs=none:=by
 unfold sM;split
 ·simp[nM] at h
 ·rfl
noncomputable def F4 (fn:Func) (r:Ex × St):Option AV :=
 match r.1 with
 | .exit _=>none
 | _=>Be P fn r.2
theorem ON {f:Nat} {fn:Func} {c:Code} (hf:P.funcs[f]? = some fn) (hb:fn.body=some c) (oR:sL fn=true) (e sz m:Nat) (cs xs:List AV) (hx:Ext.ext f (.uniq e sz m cs :: xs)=none) :
 aC P f (.uniq e sz m cs :: xs)=cH (wQ P (lP c) c (St.tM e sz m cs xs)) (F4 P fn):=by
 apply Option.ext
 intro r;rw[rS,eM];have hq:qO (.uniq e sz m cs :: xs)=some (e,sz,m,cs,xs):=rfl
 constructor
 ·rintro⟨n,h⟩
  cases n with
  | zero=>rw[Pc,hx] at h;cases h
  | succ n =>
    simp only[uB,hx,hq,runM,hf,oR,hb,if_true] at h;obtain⟨r1,h1,h2⟩:=eM.1 h
    exact⟨r1,(gG P).2 ⟨n,n,h1⟩,h2⟩
 ·rintro⟨r1,h1,h2⟩
  obtain⟨n,m',h1⟩:=(gG P).1 h1
  refine⟨max n m'+1, ?_⟩
  simp only[uB,hx,hq,runM,hf,oR,hb,if_true];exact eM.2 ⟨r1,mL P (Al P (Nat.le_max_left _ _)) (Am P (Nat.le_max_left _ _)) _ _ (Nat.le_max_right _ _) _ _ _ h1,h2⟩
theorem QX {f:Nat} {fn:Func} {c:Code} (hf:P.funcs[f]? = some fn) (hb:fn.body=some c) (oR:sL fn=true) (xs:List AV) (hx:Ext.ext f xs=none) (hu:xs.any nM=false):aC P f xs=cH (wQ P (lP c) c (St.init xs)) (yG P f fn):=by
 apply Option.ext
 intro r;rw[rS,eM];constructor
 ·rintro⟨n,h⟩
  cases n with
  | zero=>rw[Pc,hx] at h;cases h
  | succ n =>
    simp only[uB,hx,Ml hu,Mm hu,hu,A4,hf,oR,hb,if_true] at h;obtain⟨r1,h1,h2⟩:=eM.1 h
    exact⟨r1,(gG P).2 ⟨n,n,h1⟩,h2⟩
 ·rintro⟨r1,h1,h2⟩
  obtain⟨n,m,h1⟩:=(gG P).1 h1
  refine⟨max n m+1, ?_⟩
  simp only[uB,hx,Ml hu,Mm hu,hu,A4,hf,oR,hb,if_true];exact eM.2 ⟨r1,mL P (Al P (Nat.le_max_left _ _)) (Am P (Nat.le_max_left _ _)) _ _ (Nat.le_max_right _ _) _ _ _ h1,h2⟩
theorem G4 {f:Nat} {fn:Func} {c:Code} (hf:P.funcs[f]? = some fn) (hb:fn.body=some c) (oR:sL fn=true) (x:AV) (e sz m:Nat) (cs:List AV) (hu:nM x=false) (hx:Ext.ext f [x,.uniq e sz m cs]=none) :
 aC P f [x,.uniq e sz m cs]=cH (wQ P (lP c) c (St.qG x e sz m cs)) (yG P f fn):=by
 apply Option.ext
 intro r;rw[rS,eM];have hq:qO [x,.uniq e sz m cs]=none:=by cases x<;>first|rfl|simp[nM] at hu
 have hl:sM [x,.uniq e sz m cs]=some (x,e,sz,m,cs):=rfl
 constructor
 ·rintro⟨n,h⟩
  cases n with
  | zero=>rw[Pc,hx] at h;cases h
  | succ n =>
    simp only[uB,hx,hq,hl,Xv,hf,oR,hb,if_true] at h;obtain⟨r1,h1,h2⟩:=eM.1 h
    exact⟨r1,(gG P).2 ⟨n,n,h1⟩,h2⟩
 ·rintro⟨r1,h1,h2⟩
  obtain⟨n,m',h1⟩:=(gG P).1 h1
  refine⟨max n m'+1, ?_⟩
  simp only[uB,hx,hq,hl,Xv,hf,oR,hb,if_true];exact eM.2 ⟨r1,mL P (Al P (Nat.le_max_left _ _)) (Am P (Nat.le_max_left _ _)) _ _ (Nat.le_max_right _ _) _ _ _ h1,h2⟩
theorem Qk {f:Nat} {fn:Func} {c:Code} (hf:P.funcs[f]? = some fn) (hb:fn.body=some c) (oR:bF fn=true) (xs:List AV) (hx:Ext.ext f xs=none) (hu:xs.any nM=false):aC P f xs=cH (yS P c (St.init xs)) (yG P f fn):=by
 simp only[bF,hb,Bool.and_eq_true,Bool.not_eq_true'] at oR;rw[QX P hf hb oR.1 xs hx hu,oR.2];rfl
noncomputable def aGC (fn:Func) (r:Ex × St):Option (AV × St) :=
 match r.1 with
 | .exit _=>none
 | _=>(Bf P fn r.2).map fun x=>(x,r.2)
theorem JD {f:Nat} {fn:Func} {c:Code} (hf:P.funcs[f]? = some fn) (hb:fn.body=some c) (oR:Xu true fn=true) (xs:List AV) (st:St):Dr P f xs st=cH (wQ P true c ((St.init xs).back st)) (aGC P fn):=by
 apply Option.ext
 intro r;rw[BI,eM];constructor
 ·rintro⟨n,h⟩
  cases n with
  | zero=>rw[O6] at h;cases h
  | succ n =>
    simp only[Pd,A5,hf,oR,hb,if_true] at h;obtain⟨r1,h1,h2⟩:=eM.1 h
    exact⟨r1,(gG P).2 ⟨n,n,h1⟩,h2⟩
 ·rintro⟨r1,h1,h2⟩
  obtain⟨n,m,h1⟩:=(gG P).1 h1
  refine⟨max n m+1, ?_⟩
  simp only[Pd,A5,hf,oR,hb,if_true];exact eM.2 ⟨r1,mL P (Al P (Nat.le_max_left _ _)) (Am P (Nat.le_max_left _ _)) _ _ (Nat.le_max_right _ _) _ _ _ h1,h2⟩
end
end Go.Ab
end
