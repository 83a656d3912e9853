/-
  Part 4 of the proof: an evaluator of programs, its soundness, and what functions of this program compute.
-/
import Derived.Test.YtmcjkemalibacaaGreatK3
set_option linter.all false
set_option maxRecDepth 20000
set_option maxHeartbeats 40000000
section
namespace Go.Ab
open Classical
variable [Ext]
def Xo (ops:Array Oper) (acc:Array Nat):Prop :=
 ∀j o,j<acc.size→ops[j]? = some o→∀k,(acc.getD j 0).testBit k=true→∃e∈o.after,Region.binds .any e=true∧(e.on=k∨(acc.getD e.on 0).testBit k=true)
theorem DY (acc:Array Nat) (k:Nat):∀(l:List Edge) (s:Nat),(l.foldl (fun s e=>if Region.binds .any e=true then s ||| 2 ^ e.on ||| acc.getD e.on 0 else s) s).testBit k=true →
 s.testBit k=true∨∃e∈l,Region.binds .any e=true∧(e.on=k∨(acc.getD e.on 0).testBit k=true)
 | [],s,h=>.inl h
 | e :: l,s,h=>by
   simp only[List.foldl_cons] at h;rcases DY acc k l _ h with h|⟨e',zH,h⟩
   ·split at h
    ·rename_i hb;simp only[Nat.testBit_or,Bool.or_eq_true] at h;rcases h with (h|h)|h
     ·exact .inl h
     ·rw[Nat.testBit_two_pow] at h;exact .inr ⟨e,by simp,hb,.inl (by simpa using h)⟩
     ·exact .inr ⟨e,by simp,hb,.inr h⟩
    ·exact .inl h
   ·exact .inr ⟨e',by simp[zH],h⟩
theorem DZ {α:Type} (n:Nat) (k:Nat→α):forced n k=k n:=by cases n<;>rfl
theorem Xp (ops:Array Oper):∀(l:List Oper) (acc:Array Nat),(∀i o,l[i]? = some o→ops[acc.size+i]? = some o)→Xo ops acc→Xo ops (CG l acc)
 | [],acc,_,h=>h
 | o :: l,acc,hl,h=>by
   unfold CG;rw[DZ];refine Xp ops l _ (fun i o' ho'=>?_) ?_
   ·have:=hl (i+1) o' (by simpa using ho')
    simp only[Array.size_push];rw[← this];congr 1
    omega
   ·intro j oj hj hoj k hk;have pW:∀x,(acc.getD x 0).testBit k=true→((acc.push (QX acc o)).getD x 0).testBit k=true:=fun x hx=>by
     have bA:x<acc.size:=by
      rcases Nat.lt_or_ge x acc.size with h'|h'
      ·exact h'
      ·simp[Array.getElem?_eq_none h'] at hx
     simp only[Array.getD_eq_getD_getElem?,Array.getElem?_push_lt bA] at hx ⊢;simpa [bA] using hx
    rcases Nat.lt_or_ge j acc.size with bA|hge
    ·have hk':(acc.getD j 0).testBit k=true:=by
      simp only[Array.getD_eq_getD_getElem?,Array.getElem?_push_lt bA] at hk ⊢;simpa [bA] using hk
     obtain⟨e,he,hb,hor⟩:=h j oj bA hoj k hk'
     exact⟨e,he,hb,hor.imp id (pW _)⟩
    ·have hje:j=acc.size:=by simp only[Array.size_push] at hj;omega
     subst hje;have ho:=hl 0 o (by simp)
     rw[Nat.add_zero,hoj] at ho;cases ho
     have hk':(QX acc o).testBit k=true:=by simpa using hk
     rcases DY acc k _ 0 hk' with h0|⟨e,he,hb,hor⟩
     ·simp at h0
     ·exact⟨e,by simpa using he,hb,hor.imp id (pW _)⟩
theorem Ny {ops:Array Oper} {dy:List (Nat × Nat)} {b:Array Nat} {j:Nat} {oj:Oper}:∀(l:List Oper) (i0:Nat),Md ops dy b j oj l i0=true→∀i oi,l[i]? = some oi→i0+i<j→(b.getD j 0).testBit (i0+i)=true∨(WE oi=true∧WE oj=true∧(rY ops oi oj=true∨((i0+i,j)∈dy∧EI ops b (i0+i) oi j oj=true)))
 | [],_,_,i,oi,h,_=>by simp at h
 | o :: l,i0,h,i,oi,ho,bA=>by
   unfold Md at h;simp only[Bool.and_eq_true,Bool.or_eq_true,decide_eq_true_eq] at h;cases i with
   | zero =>
     simp at ho
     subst ho;rcases h.1 with (h|h)|⟨⟨n1,n2⟩,h⟩
     ·omega
     ·exact .inl (by simpa using h)
     ·exact .inr ⟨n1,n2,h.imp id fun h=>⟨by simpa using h.1,by simpa using h.2⟩⟩
   | succ i =>
     have:=Ny l (i0+1) h.2 i oi (by simpa using ho) (by omega)
     rw[show i0+(i+1)=i0+1+i by omega]
     exact this
theorem Hg {ops:Array Oper} {dy:List (Nat × Nat)} {b:Array Nat}:∀(l:List Oper) (j0:Nat),EJ ops dy b l j0=true→∀j oj,l[j]? = some oj →
 (∀e∈oj.after,Region.binds .any e=true→e.on<j0+j)∧Md ops dy b (j0+j) oj ops.toList 0=true
 | [],_,_,j,oj,h=>by simp at h
 | o :: l,j0,h,j,oj,ho=>by
   unfold EJ at h;simp only[Bool.and_eq_true] at h;obtain⟨⟨h1,h2⟩,h3⟩:=h
   cases j with
   | zero =>
     simp at ho
     subst ho;refine⟨fun e he hb=>?_,by simpa using h2⟩
     have:=List.all_eq_true.1 h1 e (by simpa using he)
     simpa [hb] using this
   | succ j =>
     have:=Hg l (j0+1) h3 j oj (by simpa using ho)
     rw[show j0+(j+1)=j0+1+j by omega]
     exact this
structure Cq (ops:Array Oper) (dy:List (Nat × Nat)) (b:Array Nat):Prop where
 aLs:Xo ops b
 size:b.size=ops.size
 lt:∀j oj,ops[j]? = some oj→∀e∈oj.after,Region.binds .any e=true→e.on<j
 apart:∀i j oi oj,i<j→ops[i]? = some oi→ops[j]? = some oj→(b.getD j 0).testBit i=true∨(WE oi=true∧WE oj=true∧(rY ops oi oj=true∨((i,j)∈dy∧EI ops b i oi j oj=true)))
theorem Xq:∀(l:List Oper) (acc:Array Nat),(CG l acc).size=acc.size+l.length
 | [],acc=>rfl
 | o :: l,acc=>by
   unfold CG;rw[DZ,Xq l];simp
   omega
theorem NB {ops:Array Oper} {dy:List (Nat × Nat)} (h:Uu ops dy=true):∃b,Cq ops dy b:=by
 unfold Uu at h;refine⟨_,Xp ops ops.toList #[] (fun i o ho=>by simpa using ho) (fun j o hj=>by simp at hj),by rw[Xq];simp,fun j oj hoj=>?_,fun i j oi oj hij R2 hoj=>?_⟩
 ·have:=(Hg _ 0 h j oj (by simpa using hoj)).1
  simpa using this
 ·have:=(Hg _ 0 h j oj (by simpa using hoj)).2
  simp only[Nat.zero_add] at this;have:=Ny _ 0 this i oi (by simpa using R2) (by omega)
  simpa using this
section
variable {P:Program} {call:Nat→List AV→Option AV} {ops:Array Oper} {nt:Nat} {Q:Exit→Act→World→Prop}
theorem NC {h0:Nat→Obj→Prop} {w0:World} {F:Fz} {ρ:Nat→Nat→Value} {st:St} {a:Act} {w:World} (S:kA F h0 w0 nt ρ st a w) {o:Oper} {b:Bool} (h:gv ops st o.guard=some b):Region.wanted o (yielded ops a.tmps)=b:=by
 unfold gv at h;unfold Region.wanted;cases hg:o.guard with
 | none=>simp[hg] at h;subst h;rfl
 | some jw =>
   obtain⟨j,want⟩:=jw
   simp only[hg] at h;simp only
   cases hd:(ops[j]?).bind (·.dst) with
   | none =>
     simp[hd] at h
     subst h;simp[yielded,hd]
   | some d =>
     simp only[hd] at h;split at h
     ·rename_i x hx;have hr:=S.env d
      rw[hx] at hr;have hv:=iE hr
      rcases Nat.lt_or_ge d a.tmps.size with bA|hge
      ·have hv':a.tmps[d]? = some x:=by
        simp[bA] at hv ⊢
        exact hv
       simp only[yielded,hd,Option.bind_some,hv'];split at h
       ·simp only[Option.some.injEq] at h;rw[← h];simp
       ·simp only[Option.some.injEq] at h;subst h;rename_i gN;cases x<;>first|rfl|exact absurd rfl (gN _)
      ·have hn:a.tmps[d]? = none:=Array.getElem?_eq_none hge
       have hu:x=undef:=by simpa [hn] using hv.symm
       subst hu;simp[undef] at h
       subst h;simp[yielded,hd,hn]
     ·cases h
theorem UA {h0:Nat→Obj→Prop} {w0:World} {F:Fz} {ρ:Nat→Nat→Value} {st st':St} {a:Act} {w:World} {K:Act→World→Prop} (S:kA F h0 w0 nt ρ st a w) (jU:qP P call) {i:Nat} {o:Oper}
 (hi:ops[i]? = some o) (hd:∀d,o.dst=some d→d<nt) (h:cB P call ops o st=some st')
 (hK:∀nC a' w',kA F h0 w0 nt nC st' a' w'→K a' w'):wpOp P ops Q i K a w:=by
 unfold wpOp;simp only[hi];unfold cB at h;cases hg:gv ops st o.guard with
 | none=>simp[hg] at h
 | some b =>
   rw[NC S hg];simp only[hg] at h;cases b with
   | true =>
     simp only[if_true] at h ⊢;cases he:dH P call o st with
     | none=>simp[he] at h
     | some e =>
       simp only[he,Option.map_some,Option.some.injEq] at h;subst h;exact .inl (Si S jU he hd hK)
   | false =>
     simp only[Bool.false_eq_true,if_false,Option.some.injEq] at h ⊢;subst h;exact hK ρ _ w (S.put o.dst hd (.v _))
theorem GY {o:Oper} {a:Act} {w:World} {K:Act→World→Prop} (h:o.wp P a w K fun _ _ _=>False):∃a' w',K a' w':=by
 unfold Oper.wp at h;generalize (execOp a.eval o).run P w=r at h
 have hlet:¬LetsOut (fun _ _ _=>False):=by rintro⟨_,_,h⟩;exact h
 cases r with
 | ok n w' =>
   cases n<;>simp only[Oper.upon] at h<;>(try exact⟨_,_,h⟩)<;>(try exact h.elim)
   ·obtain⟨e,w2,fr,hR,_⟩:=h []
    cases e with
    | returned v=>exact⟨_,_,hR⟩
    | panicked c=>exact hR.elim
    | outgrown=>exact absurd hR hlet
   ·obtain⟨v,w2,hR,_⟩:=h default []
    exact⟨_,_,hR⟩
 | halt x w'=>cases x<;>simp only[Oper.upon] at h
def Valid (nt:Nat) (st:St):Prop:=∃(F:Fz) (h0:Nat→Obj→Prop) (w0:World) (ρ:Nat→Nat→Value) (a:Act) (w:World),kA F h0 w0 nt ρ st a w
theorem Valid.ids {st:St} (h:Valid nt st):∀t,lX st.aO (st.env t):=by
 obtain⟨F,h0,w0,ρ,a,w,S⟩:=h
 exact fun t=>⟨ctx h0 w0 ρ st w,_,rfl,S.env t⟩
theorem Valid.hp {st:St} (h:Valid nt st):AP st:=by
 obtain⟨F,h0,w0,ρ,a,w,S⟩:=h
 intro s g cs he c hc;obtain⟨_,_,b,arr,T,_,_,_,Az⟩:=S.rZ s g _ he
 obtain⟨i,hi,rfl⟩:=List.getElem_of_mem hc
 have hl:=Az.len
 exact⟨ctx h0 w0 ρ st w,arr.toList[i]'(by omega),rfl,Az.rel i _ _ (by simp[hi]) (by simp)⟩
theorem Valid.step {st st':St} (h:Valid nt st) (jU:qP P call) {o:Oper} (hd:∀d,o.dst=some d→d<nt) (he:cB P call ops o st=some st'):Valid nt st':=by
 obtain⟨F,h0,w0,ρ,a,w,S⟩:=h
 unfold cB at he;cases hg:gv ops st o.guard with
 | none=>simp[hg] at he
 | some b =>
   simp only[hg] at he;cases b with
   | true =>
     simp only[if_true] at he;cases hee:dH P call o st with
     | none=>simp[hee] at he
     | some e =>
       simp only[hee,Option.map_some,Option.some.injEq] at he;subst he;obtain⟨a',w',nC,S'⟩:=GY (Si (Q:=fun _ _ _=>False) (K:=fun a' w'=>∃nC,kA F h0 w0 nt nC (e.apply st) a' w') S jU hee hd (fun nC a' w' h=>⟨nC,h⟩))
       exact⟨F,h0,w0,nC,a',w',S'⟩
   | false =>
     simp only[Bool.false_eq_true,if_false,Option.some.injEq] at he;subst he;exact⟨F,h0,w0,ρ,_,w,S.put o.dst hd (.v _)⟩
theorem uY {b:Array Nat} {i a:Nat} {aS:List Nat} (ha:a∈aS):∀(l:List Oper) (m0:Nat),vK b i aS l m0=true→∀m o,l[m]? = some o→o.dst=some a→(b.getD i 0).testBit (m0+m)=true
 | [],_,_,m,o,h,_=>by simp at h
 | o' :: l,m0,h,m,o,ho,hd=>by
   unfold vK at h;simp only[Bool.and_eq_true,Bool.or_eq_true] at h;cases m with
   | zero =>
     simp at ho
     subst ho;rcases h.1 with h|h
     ·rw[hd] at h;simp[ha] at h
     ·simpa using h
   | succ m =>
     have:=uY ha l (m0+1) h.2 m o (by simpa using ho) hd
     rw[show m0+(m+1)=m0+1+m by omega]
     exact this
theorem pP.mem {s:St}:∀ {l:List (Nat × Nat)},pP ops s l→∀p∈l,Ut ops s p
 | p :: l,h,q,hq=>by
   rcases List.mem_cons.1 hq with rfl|hq
   ·exact h.1
   ·exact h.2.mem q hq
structure Left (ops:Array Oper) (lI:Array Bool) (l:List Nat):Prop where
 size:lI.size=ops.size
 mem:∀j,j∈l↔j<ops.size∧lI.getD j true=false
 sorted:l.Pairwise (· < ·)
 closed:∀j o,ops[j]? = some o→lI.getD j false=true→∀e∈o.after,Region.binds .any e=true→lI.getD e.on false=true
theorem Cq.aFC {dy:List (Nat × Nat)} {b:Array Nat} (D:Cq ops dy b):∀(j:Nat) o,ops[j]? = some o→∀k,(b.getD j 0).testBit k=true→k<j:=by
 intro j;induction j using Nat.strongRecOn with
 | _ j ih =>
   intro o ho k hk;have hj:j<ops.size:=(Array.getElem?_eq_some_iff.1 ho).1
   obtain⟨e,he,hb,hor⟩:=D.aLs j o (by rw[D.size];exact hj) ho k hk
   have bA:=D.lt j o ho e he hb
   rcases hor with rfl|hk'
   ·exact bA
   ·have hes:e.on<ops.size:=by omega
    have:=ih e.on bA _ (Array.getElem?_eq_getElem hes) k hk'
    omega
theorem EA {lI:Array Bool} {j:Nat} (hj:j<lI.size):lI.getD j true=lI.getD j false:=by simp[hj]
theorem ND {dy:List (Nat × Nat)} {b:Array Nat} (D:Cq ops dy b) {lI:Array Bool} {l:List Nat} (L:Left ops lI l):∀(j:Nat) o,ops[j]? = some o→(∀e∈o.after,Region.binds .any e=true→lI.getD e.on false=true) →
 ∀k,(b.getD j 0).testBit k=true→lI.getD k false=true:=by
 intro j;induction j using Nat.strongRecOn with
 | _ j ih =>
   intro o ho Kf k hk;have hj:j<ops.size:=(Array.getElem?_eq_some_iff.1 ho).1
   obtain⟨e,he,hb,hor⟩:=D.aLs j o (by rw[D.size];exact hj) ho k hk
   have hle:=Kf e he hb
   rcases hor with rfl|hk'
   ·exact hle
   ·have bA:=D.lt j o ho e he hb
    have hes:e.on<ops.size:=by omega
    exact ih e.on bA _ (Array.getElem?_eq_getElem hes) (L.closed e.on _ (Array.getElem?_eq_getElem hes) hle) k hk'
end
end Go.Ab
end
section
namespace Go.Ab
open Classical
variable [Ext]
section
variable {P:Program} {call:Nat→List AV→Option AV} {inl:Nat→List AV→St→Option (AV × St)} {bi:Bool} {nt:Nat} {h0:Nat→Obj→Prop} {w0:World} {F:Fz}
theorem AY {ops:Array Oper} {id:Nat} {draw:Bool} (h:codeOk bi nt (.region id ops draw)=true):(∀(j:Nat) o,ops[j]? = some o→∀d,o.dst=some d→d<nt)∧(draw=true→Uu ops (if bi=true then Ext.dyn id ops.size (rM ops) else [])=true):=by
 simp only[codeOk,Bool.and_eq_true,Bool.or_eq_true,Bool.not_eq_true'] at h;refine⟨fun j o ho d hd=>?_,fun hdr=>h.2.resolve_left (by rw[hdr];simp)⟩
 have:=Array.all_eq_true_iff_forall_mem.1 h.1 o (Array.mem_of_getElem? ho)
 simpa [hd] using this
def Xr (P:Program) (inl:Nat→List AV→St→Option (AV × St)):Prop :=
 ∀g xs st r s',inl g xs st=some (r,s')→Gz P g ∧
  ∀(F:Fz) (h0:Nat→Obj→Prop) (w0:World) (nt:Nat) (ρ:Nat→Nat→Value) (a:Act) (w:World) (vs:Array Value) (K:Value→World→Prop),kA F h0 w0 nt ρ st a w→kX (ctx h0 w0 ρ st w) xs vs.toList →
   (∀nC w' v,kA F h0 w0 nt nC (st.back s') a w'→cS (ctx h0 w0 nC (st.back s') w') r v→K v w')→Calls P g vs w fun en w'=>∃v,en=.returned v∧K v w'
theorem UB {o:Oper} {g:Nat} {args:List Operand} (h:Er o=some (g,args)):∃c,o.op=.call c∧c.callee=.value (.func g)∧c.args.toList=args:=by
 obtain⟨dst,op,type,pos,after,guard⟩:=o
 unfold Er at h;split at h
 ·rename_i g' args' rL pQ
  split at h
  ·simp only[Option.some.injEq,Prod.mk.injEq] at h;obtain⟨rfl,rfl⟩:=h
   exact⟨_,pQ,rfl,rfl⟩
  ·cases h
 ·cases h
theorem Sm {ops:Array Oper} {Q:Exit→Act→World→Prop} {ρ:Nat→Nat→Value} {st st':St} {a:Act} {w:World} {K:Act→World→Prop} (S:kA F h0 w0 nt ρ st a w) (jU:qP P call) (Nz:Xr P inl) {i:Nat} {o:Oper}
 (hi:ops[i]? = some o) (hd:∀d,o.dst=some d→d<nt) (h:gK P bi call inl ops o st=some st')
 (hK:∀nC a' w',kA F h0 w0 nt nC st' a' w'→K a' w'):wpOp P ops Q i K a w:=by
 unfold gK at h;split at h
 ·rename_i g args hg;have YV:Er o=some (g,args):=by
   split at hg
   ·exact hg
   ·cases hg
  obtain⟨c,pQ,hcal,vY⟩:=UB YV
  unfold wpOp;simp only[hi];cases Q7:gv ops st o.guard with
  | none=>simp[Q7] at h
  | some b =>
    rw[NC S Q7];simp only[Q7] at h;cases b with
    | true =>
      simp only[if_true] at h ⊢;cases he:inl g (args.map st.ev) st with
      | none=>simp[he] at h
      | some r =>
        obtain⟨x,s'⟩:=r
        simp only[he,Option.map_some,Option.some.injEq] at h;subst h;refine .inl ?_
        obtain⟨⟨fn,aFx,Q1,Q2⟩,TP⟩:=Nz g _ st x s' he
        have hnb:fn.body.isNone=false:=by
         cases hb:fn.body<;>simp[hb] at Q2 ⊢
        have Pm : ¬ fn.name = "runtime.NumGoroutine" := by simpa using Q1
        have hn2:¬fn.body=none:=by intro h;simp[h] at hnb
        have pN:(execOp a.eval o).run P w=.ok (.enter g (c.args.map a.eval)) w:=by
         simp[execOp,pQ,resolve,hcal,Act.eval,Deferred.ofValue,invoke,callFunc,aFx,Pm,hn2]
        have fQ:kX (ctx h0 w0 ρ st w) (args.map st.ev) (c.args.map a.eval).toList:=by
         rw[← vY];simpa using kX.map c.args.toList _ _ fun p _=>S.ev p
        unfold Oper.wp;rw[pN,Oper.upon_enter];refine (TP F h0 w0 nt ρ a w (c.args.map a.eval) (fun v w'=>K (a.put o.dst v) w') S fQ fun nC w' v S' hv=>?_).mono ?_
        ·exact hK nC _ w' (S'.put o.dst hd hv)
        ·rintro en w' ⟨v,rfl,hk⟩
         exact hk
    | false =>
      simp only[Bool.false_eq_true,if_false,Option.some.injEq] at h ⊢;subst h;exact hK ρ _ w (S.put o.dst hd (.v _))
 ·exact UA S jU hi hd h hK
theorem Xs {ops:Array Oper} (jU:qP P call) (Nz:Xr P inl) (kN:∀(j:Nat) o,ops[j]? = some o→∀d,o.dst=some d→d<nt) {Q:Exit→Act→World→Prop} {sf:St}
 (hQ:∀nC a' w',kA F h0 w0 nt nC sf a' w'→Q .normal a' w'):∀(l:List Oper) (k:Nat) (st:St) (ρ:Nat→Nat→Value) (a:Act) (w:World),(∀(j:Nat) o,l[j]? = some o→ops[k+j]? = some o)→kA F h0 w0 nt ρ st a w →
  lU P bi call inl ops l st=some sf→wpOps P ops Q (List.range' k l.length) a w
 | [],k,st,ρ,a,w,hl,S,h=>by
   simp only[lU,Option.some.injEq] at h;subst h;exact hQ ρ a w S
 | o :: l,k,st,ρ,a,w,hl,S,h=>by
   rw[List.length_cons,List.range'_succ,wpOps_cons];have hi:ops[k]? = some o:=hl 0 o rfl
   unfold lU at h;cases h1:gK P bi call inl ops o st with
   | none=>simp[h1,cH] at h
   | some s1 =>
     simp only[h1,cH] at h;exact Sm S jU Nz hi (kN k o hi) h1 fun nC a' w' S'=>Xs jU Nz kN hQ l (k+1) s1 nC a' w' (fun j o' hj=>by
      have:=hl (j+1) o' (by simpa using hj)
      rw[show k+1+j=k+(j+1) by omega];exact this) S' h
noncomputable def Lg (P:Program) (bi:Bool) (call:Nat→List AV→Option AV) (inl:Nat→List AV→St→Option (AV × St)) (ops:Array Oper):List Nat→St→Option St
 | [],st=>some st
 | i :: r,st =>
   match ops[i]? with
   | some o=>cH (gK P bi call inl ops o st) (Lg P bi call inl ops r)
   | none=>Lg P bi call inl ops r st
theorem Sn {ops:Array Oper}:∀(l:List Oper) (k:Nat) (st:St),(∀j,l[j]? = ops[k+j]?∨l.length≤j)→lU P bi call inl ops l st=Lg P bi call inl ops (List.range' k l.length) st
 | [],k,st,h=>rfl
 | o :: l,k,st,h=>by
   have h0:=(h 0).resolve_right (by simp)
   simp only[List.getElem?_cons_zero,Nat.add_zero] at h0;simp only[lU,List.length_cons,List.range'_succ,Lg,← h0];cases gK P bi call inl ops o st with
   | none=>rfl
   | some s =>
     simp only[cH];exact Sn l (k+1) s fun j=>by
      rcases h (j+1) with h|h
      ·left
       rw[show k+1+j=k+(j+1) by omega,← h]
       simp
      ·right
       simpa using h
theorem Xt {ops:Array Oper} {o:Oper} {st s:St} {a:Nat} (h:cB P call ops o st=some s) (hd:o.dst≠some a):s.env a=st.env a:=by
 rw[Eh] at h;cases he:rE P call ops o st with
 | none=>simp[he] at h
 | some e =>
   simp only[he,Option.map_some,Option.some.injEq] at h;subst h;rw[nX,(oH he).1,if_neg hd]
theorem R3 {o:Oper} (h:WE o=true):Er o=none:=by simpa [WE] using h
theorem NF {ops:Array Oper} {o:Oper} (h:WE o=true) (st:St):gK P bi call inl ops o st=cB P call ops o st:=by
 unfold gK;rw[R3 h];cases bi<;>rfl
theorem v8 {ops:Array Oper} {o:Oper} {st s:St} {a:Nat} (h:gK P bi call inl ops o st=some s) (hd:o.dst≠some a):s.env a=st.env a:=by
 unfold gK at h;have hput:∀(s0:St) (x:AV),(s0.put o.dst x).env a=s0.env a:=fun s0 x=>by
  cases hod:o.dst with
  | none=>rfl
  | some d =>
    simp only[St.put];rw[if_neg];rintro rfl
    exact hd hod
 split at h
 ·split at h
  ·split at h
   ·simp only[Option.map_eq_some_iff] at h;obtain⟨r,_,rfl⟩:=h
    exact hput _ _
   ·simp only[Option.some.injEq] at h;subst h;exact hput _ _
  ·cases h
 ·exact Xt h hd
theorem Oa {ops:Array Oper} {a:Nat}:∀(l:List Nat) {st sf:St},(∀m∈l,∀o,ops[m]? = some o→o.dst≠some a)→Lg P bi call inl ops l st=some sf→sf.env a=st.env a
 | [],st,sf,_,h=>by
   simp only[Lg,Option.some.injEq] at h;subst h;rfl
 | i :: l,st,sf,hd,h=>by
   unfold Lg at h;cases hi:ops[i]? with
   | none=>simp only[hi] at h;exact Oa l (fun m hm=>hd m (by simp[hm])) h
   | some o =>
     simp only[hi] at h;cases h1:gK P bi call inl ops o st with
     | none=>simp[h1,cH] at h
     | some s1 =>
       simp only[h1,cH] at h;rw[Oa l (fun m hm=>hd m (by simp[hm])) h,v8 h1 (hd i (by simp) o hi)]
def XV (ops:Array Oper) (sf:St) (rest:List Nat) (k:Nat) (ok oi:Oper):Prop :=
 rY ops ok oi=true∨∃aS bs,gO ok=some aS∧gO oi=some bs∧Oper.apart ops ok oi=true∧Kd sf aS bs ∧
  (∀m∈rest,k≤m→∀o,ops[m]? = some o→∀a∈aS,o.dst≠some a)∧(∀m∈rest,∀o,ops[m]? = some o→∀b∈bs,o.dst≠some b)
theorem Xu {ops:Array Oper} (jU:qP P call) (kN:∀(j:Nat) o,ops[j]? = some o→∀d,o.dst=some d→d<nt) {i:Nat} {oi:Oper} (hi:ops[i]? = some oi) (l2:List Nat):∀(l1:List Nat) (st sf:St),Valid nt st→(l1++i :: l2).Pairwise (· < ·) →
 (∀k∈l1,∃ok,ops[k]? = some ok∧WE ok=true∧WE oi=true∧XV ops sf (l1++i :: l2) k ok oi)→Lg P bi call inl ops (l1++i :: l2) st=some sf→Lg P bi call inl ops (i :: (l1++l2)) st=some sf
 | [],st,sf,_,_,_,h=>h
 | k :: l1,st,sf,hv,hs,mT,h=>by
   obtain⟨ok,rK,Pm,hn2,hak⟩:=mT k (by simp)
   have e1:=fun st=>NF (P:=P) (bi:=bi) (call:=call) (inl:=inl) (ops:=ops) Pm st
   have e2:=fun st=>NF (P:=P) (bi:=bi) (call:=call) (inl:=inl) (ops:=ops) hn2 st
   simp only[List.cons_append,Lg,rK,e1] at h;cases h1:cB P call ops ok st with
   | none=>simp[h1,cH] at h
   | some s1 =>
     simp only[h1,cH] at h;rw[List.cons_append,List.pairwise_cons] at hs;have ih:=Xu jU kN hi l2 l1 s1 sf (hv.step jU (kN k ok rK) h1) hs.2 (fun k' hk=>by
      obtain⟨ok',h1,m1,m2,h2⟩:=mT k' (by simp[hk])
      refine⟨ok',h1,m1,m2,h2.imp id ?_⟩
      rintro⟨a,a',e1,e2,e3,e4,e5,e6⟩
      exact⟨a,a',e1,e2,e3,e4,fun m hm=>e5 m (by simp only[List.cons_append];exact List.mem_cons_of_mem _ hm),fun m hm=>e6 m (by simp only[List.cons_append];exact List.mem_cons_of_mem _ hm)⟩) h
     have ih0:=ih
     simp only[Lg,hi,e2] at ih;cases h2:cB P call ops oi s1 with
     | none=>simp[h2,cH] at ih
     | some s2 =>
       simp only[h2,cH] at ih;have hcomm:∃s3,cB P call ops oi st=some s3∧cB P call ops ok s3=some s2:=by
        rcases hak with hak|⟨aS,bs,P3,e2',e3,e4,e5,e6⟩
        ·exact aBR hv.hp hak hv.ids h1 h2
        ·have w1:∀m∈i :: (l1++l2),m∈(k :: l1)++i :: l2∧k≤m:=fun m hm=>by
          have hm':m∈l1++i :: l2:=by
           simp only[List.mem_cons,List.mem_append] at hm ⊢;rcases hm with h|h|h
           ·exact .inr (.inl h)
           ·exact .inl h
           ·exact .inr (.inr h)
          exact⟨by simp only[List.cons_append];exact List.mem_cons_of_mem _ hm',Nat.le_of_lt (hs.1 m hm')⟩
         have f1:∀a∈aS,sf.env a=st.env a:=fun a ha=>by
          rw[Oa _ (fun m hm o ho=>e5 m (w1 m hm).1 (w1 m hm).2 o ho a ha) ih0,Xt h1 (e5 k (by simp) (Nat.le_refl _) ok rK a ha)]
         have f2:∀b∈bs,sf.env b=st.env b:=fun b hb=>by
          rw[Oa _ (fun m hm o ho=>e6 m (w1 m hm).1 o ho b hb) ih0,Xt h1 (e6 k (by simp) ok rK b hb)]
         have e4':Kd st aS bs:=fun a ha b hb=>by
          have:=e4 a ha b hb
          rw[f1 a ha,f2 b hb] at this;exact this
         exact R1 hv.ids P3 e2' e3 e4' h1 h2
       obtain⟨s3,h3,h4⟩:=hcomm
       simp only[List.cons_append,Lg,hi,rK,e1,e2,h3,h4,cH];exact ih
theorem Xv {ops:Array Oper} {Q:Exit→Act→World→Prop} (jU:qP P call) (Nz:Xr P inl) (kN:∀(j:Nat) o,ops[j]? = some o→∀d,o.dst=some d→d<nt) {dy:List (Nat × Nat)} {b:Array Nat} (D:Cq ops dy b) {sf:St} (hsw:pP ops sf dy)
 (hQ:∀nC a' w',kA F h0 w0 nt nC sf a' w'→Q .normal a' w'):∀(f:Nat) (l:List Nat) (lI:Array Bool) (st:St) (ρ:Nat→Nat→Value) (a:Act) (w:World),l.length=f→Left ops lI l→kA F h0 w0 nt ρ st a w →
 Lg P bi call inl ops l st=some sf→wpAny P .any ops Q f lI a w
 | 0,l,lI,st,ρ,a,w,hf,L,S,he=>by
   have hl:=List.length_eq_zero_iff.1 hf
   subst hl;simp only[Lg,Option.some.injEq] at he;subst he;refine⟨?_,hQ ρ a w S⟩
   cases hr:Region.ready .any ops lI with
   | nil=>rfl
   | cons x xs =>
     have hx:x∈Region.ready .any ops lI:=by rw[hr];simp
     obtain⟨h1,o,ho,_⟩:=mem_ready.1 hx
     have:=(L.mem x).2 ⟨(Array.getElem?_eq_some_iff.1 ho).1,h1⟩
     simp at this
 | f+1,l,lI,st,ρ,a,w,hf,L,S,he=>by
   refine⟨fun hr=>?_,fun i hi=>?_⟩
   ·exfalso
    cases l with
    | nil=>simp at hf
    | cons i l =>
      have hil:=(L.mem i).1 (by simp)
      have:i∈Region.ready .any ops lI:=mem_ready.2 ⟨hil.2,ops[i],Array.getElem?_eq_getElem hil.1,fun e zH hb=>by
       have bA:=D.lt i _ (Array.getElem?_eq_getElem hil.1) e zH hb
       cases hle:lI.getD e.on false with
       | true=>rfl
       | false =>
         have hsz:e.on<lI.size:=by rw[L.size];omega
         have hin:=(L.mem e.on).2 ⟨by omega,by rw[EA hsz];exact hle⟩
         rcases List.mem_cons.1 hin with h|h
         ·omega
         ·have:=(List.pairwise_cons.1 L.sorted).1 _ h
          omega⟩
      rw[hr] at this;simp at this
   ·obtain⟨h1,oi,R2,Kf⟩:=mem_ready.1 hi
    have hilt:i<ops.size:=(Array.getElem?_eq_some_iff.1 R2).1
    have hil:=(L.mem i).2 ⟨hilt,h1⟩
    obtain⟨l1,l2,rfl⟩:=List.append_of_mem hil
    have hs:=L.sorted
    rw[List.pairwise_append] at hs;obtain⟨s1,s2,s3⟩:=hs
    have hno:∀m,(b.getD i 0).testBit m=true→m ∉ l1++i :: l2:=fun m h hm=>by
     have hkm:=(L.mem m).1 hm
     have:=ND D L i oi R2 Kf m h
     rw[← EA (by rw[L.size];exact hkm.1),hkm.2] at this
     cases this
    have mT:∀k∈l1,∃ok,ops[k]? = some ok∧WE ok=true∧WE oi=true∧XV ops sf (l1++i :: l2) k ok oi:=fun k hk=>by
     have hki:=s3 k hk i (by simp)
     have hkm:=(L.mem k).1 (by simp[hk])
     refine⟨ops[k],Array.getElem?_eq_getElem hkm.1, ?_⟩
     rcases D.apart k i _ oi hki (Array.getElem?_eq_getElem hkm.1) R2 with h|⟨n1,n2,h|⟨hm,h⟩⟩
     ·exact absurd (by simp[hk]) (hno k h)
     ·exact⟨n1,n2,.inl h⟩
     ·refine⟨n1,n2,.inr ?_⟩
      have hsa:=hsw.mem _ hm
      unfold Ut at hsa;simp only[Array.getElem?_eq_getElem hkm.1,R2,Option.bind_some] at hsa;unfold EI at h;cases ha:gO ops[k] with
      | none=>rw[ha] at h;cases h
      | some aS =>
        cases ha':gO oi with
        | none=>rw[ha,ha'] at h;cases h
        | some bs =>
          rw[ha,ha'] at hsa h;simp only[Bool.and_eq_true] at h hsa;refine⟨aS,bs,rfl,rfl,h.1.1,hsa,fun m hm hkm' o ho a haa hd=>?_,fun m hm o ho b wE hd=>?_⟩
          ·have hb:=uY haa _ 0 h.1.2 m o (by simpa using ho) hd
           rw[Nat.zero_add] at hb;have bA:=D.aFC k _ (Array.getElem?_eq_getElem hkm.1) m hb
           omega
          ·have hb:=uY wE _ 0 h.2 m o (by simpa using ho) hd
           rw[Nat.zero_add] at hb;exact hno m hb hm
    have zH:=Xu jU kN R2 l2 l1 st sf ⟨F,h0,w0,ρ,a,w,S⟩ L.sorted mT he
    simp only[Lg,R2] at zH
    cases h2:gK P bi call inl ops oi st with
    | none=>simp[h2,cH] at zH
    | some s2' =>
      simp only[h2,cH] at zH
      refine Sm S jU Nz R2 (kN i oi R2) h2 fun nC a' w' S'=>?_
      refine Xv jU Nz kN D hsw hQ f (l1++l2) _ s2' nC a' w' (by simp at hf ⊢;omega) ⟨by simp[L.size],fun j=>?_, ?_,fun j o ho hlj e he'' hb=>?_⟩ S' zH
      ·have hm:=L.mem j
       simp only[List.mem_append,List.mem_cons] at hm ⊢;by_cases hji:j=i
       ·subst hji;have Pm:j ∉ l1:=fun h=>by have:=s3 j h j (by simp);omega
        have hn2:j ∉ l2:=fun h=>by have:=(List.pairwise_cons.1 s2).1 j h;omega
        have hset:(lI.setIfInBounds j true).getD j true=true:=by
         have:j<lI.size:=by rw[L.size];exact hilt
         simp[this]
        simp[Pm,hn2,hset]
       ·rw[getD_set_ne true (Ne.symm hji)];simpa [hji] using hm
      ·rw[List.pairwise_append];exact⟨s1,(List.pairwise_cons.1 s2).2,fun x hx y hy=>s3 x hx y (by simp[hy])⟩
      ·by_cases hji:i=j
       ·subst hji;rw[R2] at ho;cases ho
        exact getD_set_true (Kf e he'' hb)
       ·rw[getD_set_ne false hji] at hlj;exact getD_set_true (L.closed j o ho hlj e he'' hb)
theorem GZ (hm:P.follows .mixedOrders=true) (jU:qP P call) (Nz:Xr P inl) {ops:Array Oper} {id:Nat} {draw:Bool} (rK:codeOk bi nt (.region id ops draw)=true) {Q:Exit→Act→World→Prop} {st sf:St} {ρ:Nat→Nat→Value} {a:Act} {w:World}
 (S:kA F h0 w0 nt ρ st a w) (hsw:bi=true→pP ops sf (Ext.dyn id ops.size (rM ops))) (h:lU P bi call inl ops ops.toList st=some sf) (hQ:∀nC a' w',kA F h0 w0 nt nC sf a' w'→Q .normal a' w'):(Code.region id ops draw).wp P Q a w:=by
 obtain⟨kN,hdraw⟩:=AY rK
 cases draw with
 | false =>
   refine wp_region ?_
   rw[List.range_eq_range'];have:=Xs jU Nz kN hQ ops.toList 0 st ρ a w (fun j o hj=>by simpa using hj) S h
   simpa using this
 | true =>
   rw[Sn ops.toList 0 st (fun j=>.inl (by simp))] at h
   obtain⟨b,D⟩:=NB (hdraw rfl)
   refine wp_region_any hm ?_
   have hg:w.grownBy { w with drawn:=w.drawn+1 } none:=⟨rfl,rfl,rfl,Nat.le_refl _,fun _ _ _=>rfl⟩
   have hsw':pP ops sf (if bi=true then Ext.dyn id ops.size (rM ops) else []):=by
    cases bi with
    | true=>exact hsw rfl
    | false=>exact trivial
   refine Xv jU Nz kN D hsw' hQ ops.size (List.range' 0 ops.size) _ st ρ a _ (by simp) ⟨by simp,fun j=>?_, ?_,fun j o ho hl=>?_⟩ (S.grow hg).1 (by simpa using h)
   ·rw[← List.range_eq_range',List.mem_range];constructor
    ·intro hj;exact⟨hj,by simp[hj]⟩
    ·exact fun h=>h.1
   ·rw[← List.range_eq_range'];exact List.pairwise_lt_range
   ·simp[Array.getD_eq_getD_getElem?,Array.getElem?_replicate] at hl
    split at hl<;>simp at hl
theorem Dw {p:Nat→Prop} (h:∃n,p n):∃n,p n∧∀m,p m→n≤m:=by
 obtain⟨n,hn⟩:=h
 induction n using Nat.strongRecOn with
 | _ n ih =>
   by_cases hl:∃m,m<n∧p m
   ·obtain⟨m,hm,hp⟩:=hl
    exact ih m hm hp
   ·exact⟨n,hn,fun m hm=>by
     rcases Nat.lt_or_ge m n with h|h
     ·exact absurd ⟨m,h,hm⟩ hl
     ·exact h⟩
noncomputable def Xw (p:Nat→Prop):Nat:=if h:∃n,p n then Classical.choose (Dw h) else 0
theorem So {p:Nat→Prop} (h:∃n,p n):p (Xw p)∧∀m,p m→Xw p≤m:=by
 unfold Xw;rw[dif_pos h];exact Classical.choose_spec (Dw h)
def Ex.to:Ex→Exit
 | .normal=>.normal
 | .exit id=>.exit id
 | .ret=>.ret
theorem pG (hm:P.follows .mixedOrders=true) (jU:qP P call) (Nz:Xr P inl) (n:Nat):∀(c:Code) (st sf:St) (ex:Ex) (ρ:Nat→Nat→Value) (a:Act) (w:World) (Q:Exit→Act→World→Prop),codeOk bi nt c=true →
 kA F h0 w0 nt ρ st a w→tW P bi call inl n c st=some (ex,sf)→(∀nC a' w',kA F h0 w0 nt nC sf a' w'→Q ex.to a' w')→c.wp P Q a w:=by
 induction n using Nat.strongRecOn with
 | _ n ih =>
 have pG:∀m,m<n→∀(c:Code) (st sf:St) (ex:Ex) (ρ:Nat→Nat→Value) (a:Act) (w:World) (Q:Exit→Act→World→Prop),codeOk bi nt c=true →
  kA F h0 w0 nt ρ st a w→tW P bi call inl m c st=some (ex,sf)→(∀nC a' w',kA F h0 w0 nt nC sf a' w'→Q ex.to a' w')→c.wp P Q a w:=ih
 clear ih
 intro c st sf ex ρ a w Q rK S h hQ;cases n with
 | zero=>simp[tW] at h
 | succ n =>
   cases c<;>simp only[tW] at h
   case skip =>
    simp only[Option.some.injEq,Prod.mk.injEq] at h;obtain⟨rfl,rfl⟩:=h
    exact wp_skip (hQ ρ a w S)
   case region id ops draw =>
    cases h1:lU P bi call inl ops ops.toList st with
    | none=>simp[h1,cH] at h
    | some s1 =>
      simp only[h1,cH] at h;split at h
      ·cases h
      ·rename_i hsw;simp only[Option.some.injEq,Prod.mk.injEq] at h;obtain⟨rfl,rfl⟩:=h
       exact GZ hm jU Nz rK S (fun hb=>Classical.byContradiction fun hc=>hsw ⟨hb,hc⟩) h1 hQ
   case seq x y =>
    simp only[codeOk,Bool.and_eq_true] at rK;cases h1:tW P bi call inl n x st with
    | none=>simp[h1,cH] at h
    | some r =>
      obtain⟨e1,s1⟩:=r
      simp only[h1,cH] at h;refine wp_seq (pG n (by omega) x st s1 e1 ρ a w _ rK.1 S h1 fun nC a' w' S'=>?_)
      cases e1 with
      | normal=>exact pG n (by omega) y s1 sf ex nC a' w' Q rK.2 S' h hQ
      | exit id =>
        simp only[Option.some.injEq,Prod.mk.injEq] at h;obtain⟨rfl,rfl⟩:=h
        exact hQ nC a' w' S'
      | ret =>
        simp only[Option.some.injEq,Prod.mk.injEq] at h;obtain⟨rfl,rfl⟩:=h
        exact hQ nC a' w' S'
   case cond c x y =>
    simp only[codeOk,Bool.and_eq_true] at rK;split at h
    ·rename_i t ht;have hr:=S.ev c
     rw[ht] at hr;have hv:=iE hr
     refine wp_cond (t:=t) hv ?_
     cases t with
     | true=>exact pG n (by omega) x st sf ex ρ a w Q rK.1 S (by simpa using h) hQ
     | false=>exact pG n (by omega) y st sf ex ρ a w Q rK.2 S (by simpa using h) hQ
    ·cases h
   case block id b =>
    simp only[codeOk] at rK;cases h1:tW P bi call inl n b st with
    | none=>simp[h1,cH] at h
    | some r =>
      obtain⟨e1,s1⟩:=r
      simp only[h1,cH,Option.some.injEq,Prod.mk.injEq] at h;obtain⟨rfl,rfl⟩:=h
      refine wp_block (pG n (by omega) b st s1 e1 ρ a w _ rK S h1 fun nC a' w' S'=>?_)
      have:=hQ nC a' w' S'
      cases e1 with
      | normal=>exact this
      | exit i =>
        simp only[Ex.inBlock] at this;simp only[Ex.to,Exit.inBlock];by_cases hi:i=id
        ·rw[if_pos hi] at this ⊢;exact this
        ·rw[if_neg hi] at this ⊢;exact this
      | ret=>exact this
   case loop b =>
    have hok':=rK
    simp only[codeOk] at rK;let p:Act→World→Nat→Prop:=fun a w m=>m≤n+1∧∃st ρ,kA F h0 w0 nt ρ st a w∧tW P bi call inl m (.loop b) st=some (ex,sf)
    refine wp_loop (fun a w=>∃m,p a w m) (fun a w=>Xw (p a w)) ⟨n+1,Nat.le_refl _,st,ρ,S,h⟩ fun a w hI=>?_
    obtain⟨⟨hle,st1,ρ1,S1,h1⟩,_⟩:=So hI
    generalize Xw (p a w)=m at h1 hle
    cases m with
    | zero=>simp[tW] at h1
    | succ m =>
      simp only[tW] at h1;cases h2:tW P bi call inl m b st1 with
      | none=>simp[h2,cH] at h1
      | some r =>
        obtain⟨e1,s1⟩:=r
        simp only[h2,cH] at h1;have hmn:m≤n:=by omega
        refine pG m (by omega) b st1 s1 e1 ρ1 a w _ rK S1 h2 fun nC a' w' S'=>?_
        cases e1 with
        | normal =>
          have hp:p a' w' m:=⟨by omega,s1,nC,S',h1⟩
          exact⟨⟨m,hp⟩,Nat.lt_succ_of_le ((So ⟨m,hp⟩).2 m hp)⟩
        | exit id =>
          simp only[Option.some.injEq,Prod.mk.injEq] at h1;obtain⟨rfl,rfl⟩:=h1
          exact hQ nC a' w' S'
        | ret =>
          simp only[Option.some.injEq,Prod.mk.injEq] at h1;obtain⟨rfl,rfl⟩:=h1
          exact hQ nC a' w' S'
   case exit id =>
    simp only[Option.some.injEq,Prod.mk.injEq] at h;obtain⟨rfl,rfl⟩:=h
    exact wp_exit (hQ ρ a w S)
   case ret =>
    simp only[Option.some.injEq,Prod.mk.injEq] at h;obtain⟨rfl,rfl⟩:=h
    exact wp_ret (hQ ρ a w S)
   all_goals cases h
end
end Go.Ab
end
section
namespace Go.Ab
open Classical
variable [Ext]
section
variable {P:Program}
theorem NG {h0:Nat→Obj→Prop} {w w':World}:(bare (Cn h0 w w')).Le (bare (newHs h0 w w' [])) :=
 ⟨fun b o h=>⟨h.1,h.2,by simp⟩,fun _=>Nat.le_refl _,fun _ _ h=>absurd h (by simp[bare])⟩
def yV (tmps:Array Value):ResultVar→Sem Value
 | .tmp t=>pure (tmps.getD t undef)
 | .cell p t=>do loadVar t (← asAddr (tmps.getD p undef))
theorem HA {h0:Nat→Obj→Prop} {w0:World} {F:Fz} {nt:Nat} {ρ:Nat→Nat→Value} {st:St} {a:Act} {w:World} (S:kA F h0 w0 nt ρ st a w) {rv:ResultVar} {x:AV} (h:jR P st rv=some x) :
 ∃y,(yV a.tmps rv).run P w=.ok y w∧cS (ctx h0 w0 ρ st w) x y:=by
 cases rv with
 | tmp t =>
   simp only[jR,Option.some.injEq] at h;subst h;exact⟨_,rfl,S.env t⟩
 | cell p T =>
   simp only[jR] at h;cases hra:pX st (st.env p) with
   | none=>simp[hra,cH] at h
   | some cs =>
     simp only[hra,cH] at h;obtain⟨b,off,arr,B,fr,hu,_,_⟩:=Mi S hra (S.env p)
     obtain⟨r,hr,fQ⟩:=Vb S hra h (S.env p)
     rw[hu] at hr;refine⟨r, ?_,fQ⟩
     simp only[Instr.loadAt,Instr.sureAddr] at hr;simp only[yV,hu,asAddr];exact hr
theorem lJ {h0:Nat→Obj→Prop} {w0:World} {F:Fz} {nt:Nat} {ρ:Nat→Nat→Value} {st:St} {a:Act} {w:World} (S:kA F h0 w0 nt ρ st a w):∀(rs:List ResultVar) (xs:List AV),rs.map (jR P st)=xs.map some →
 ∃ys,(rs.mapM (yV a.tmps)).run P w=.ok ys w∧kX (ctx h0 w0 ρ st w) xs ys
 | [],xs,h=>by
   cases xs with
   | nil=>exact⟨[],rfl,.nil _⟩
   | cons x xs=>simp at h
 | r :: rs,xs,h=>by
   cases xs with
   | nil=>simp at h
   | cons x xs =>
     simp only[List.map_cons,List.cons.injEq] at h;obtain⟨y,hy,fQ⟩:=HA S h.1
     obtain⟨ys,Te,hrels⟩:=lJ S rs xs h.2
     refine⟨y :: ys, ?_,.cons fQ hrels⟩
     rw[List.mapM_cons,dF hy,dF Te];rfl
theorem HB {h0:Nat→Obj→Prop} {w0:World} {F:Fz} {nt:Nat} {ρ:Nat→Nat→Value} {st:St} {a:Act} {w:World} (S:kA F h0 w0 nt ρ st a w) {fn:Func} {r:AV} (h:vF P fn st=some r) :
 ∃v,(results fn a.tmps).run P w=.ok v w∧MO h0 w0 w r v:=by
 have NH:∀(ys:List Value),(fn.results.toList.mapM (yV a.tmps)).run P w=.ok ys w →
  (results fn a.tmps).run P w=.ok (if h:ys.toArray.size=1 then ys.toArray[0] else .tuple ys.toArray) w:=by
  intro ys Te;have e:results fn a.tmps=(do let vs ← fn.results.mapM (yV a.tmps);pure (if h:vs.size=1 then vs[0] else .tuple vs)):=by
   unfold results;congr 1
  rw[e,Array.mapM_eq_mapM_toList];simp only[Sem.run_bind,Sem.run_map,Te,Result.andThen_ok,Sem.run_pure]
 unfold vF at h;split at h
 ·rename_i r1 F2;cases h1:jR P st r1 with
  | none=>simp[h1,cH] at h
  | some x =>
    simp only[h1,cH] at h;obtain⟨ys,Te,fQ⟩:=lJ (P:=P) S [r1] [x] (by simp[h1])
    have hlen:=fQ.len
    obtain⟨y,rfl⟩:∃y,ys=[y]:=by
     cases ys with
     | nil=>simp at hlen
     | cons y ys=>cases ys with
       | nil=>exact⟨y,rfl⟩
       | cons z zs=>simp at hlen
    have hxy:=fQ.head
    have pN:=NH [y] (by rw[F2];exact Te)
    simp at pN
    refine⟨y,pN, ?_⟩
    unfold Ru at h;split at h
    ·rename_i s g;split at h
     ·rename_i e sz n cs he;split at h
      ·rename_i hf;simp only[Option.some.injEq] at h;subst h;obtain⟨_,_,xs,ho,hc⟩:=S.rZ s g _ he
       cases hxy with
       | own _ _ hg CI =>
         refine⟨[ρ s g],fun x hx=>by simp at hx;subst hx;exact CI,fun i j x y b hi hj _ _=>by
          have:=(List.getElem?_eq_some_iff.1 hi).1
          have:=(List.getElem?_eq_some_iff.1 hj).1
          simp only[List.length_singleton] at *
          omega,fun x hx b hb=>by simp at hx;subst hx;exact (Bv ho b hb).1,fun d c=>rfl,fun D d c hD kK=>?_⟩
         obtain⟨k1,k2⟩:=kK 0 _ rfl
         simp only[Nat.add_zero] at k1 k2;refine⟨?_,fun i e' x hi hx=>?_⟩
         ·have:=cS.own (C:=D) d c k1 (by rw[k2];exact CI)
          rw[k2] at this;exact this
         ·match i with
          | 0 =>
            simp only[WC,Su,wY,List.getElem?_cons_zero,Option.some.injEq] at hi hx;subst hi;subst hx;exact⟨xs,ho,hc.flat hf fun b o hb=>hD b o ⟨hb.1,hb.2.1,by simpa using hb.2.2 s g _ he⟩⟩
          | i+1=>simp at hx
      ·cases h
     ·cases h
    ·exact DV (Is h) ((Ld S hxy h).le NG)
 ·rename_i rs gN;simp only[Option.map_eq_some_iff] at h;obtain⟨ds,Qn,rfl⟩:=h
  have hm:=jA _ _ Qn
  have hex:∃xs:List AV,fn.results.toList.map (jR P st)=xs.map some∧xs.map (Bt st)=ds.map some:=by
   generalize fn.results.toList=l at hm
   clear Qn
   induction l generalizing ds with
   | nil=>cases ds with
     | nil=>exact⟨[],rfl,rfl⟩
     | cons d ds=>simp at hm
   | cons r l ih=>cases ds with
     | nil=>simp at hm
     | cons d ds =>
       simp only[List.map_cons,List.cons.injEq] at hm;obtain⟨xs,e1,e2⟩:=ih ds hm.2
       cases hr:jR P st r with
       | none=>simp[hr,cH] at hm
       | some x =>
         simp only[hr,cH] at hm;exact⟨x :: xs,by simp[hr,e1],by simp[hm.1,e2]⟩
  obtain⟨xs,e1,e2⟩:=hex
  obtain⟨ys,Te,fQ⟩:=lJ S _ xs e1
  have Pl:xs.length=fn.results.toList.length:=by have:=congrArg List.length e1;simpa using this.symm
  have WK:ds.length=xs.length:=by have:=congrArg List.length e2;simpa using this.symm
  have R4:ys.toArray.size≠1:=by
   intro h1;have hlen:=fQ.len
   simp only[List.size_toArray] at h1;have:fn.results.toList.length=1:=by omega
   obtain⟨z,hz⟩:=List.length_eq_one_iff.1 this
   exact gN z hz
  have pN:=NH ys Te
  rw[dif_neg R4] at pN;refine⟨_,pN, ?_⟩
  refine DV (.eB ds (oW (p:=Flat) (f:=fun r=>cH (jR P st r) (Bt st)) (fun a b h=>by
   cases hr:jR P st a with
   | none=>simp[hr,cH] at h
   | some x=>simp only[hr,cH] at h;exact TL h) _ _ Qn)) (.eB ds ys.toArray (by simp;rw[WK];exact fQ.len) fun i x y hx hy=>?_)
  have hi:i<xs.length:=by have:=(List.getElem?_eq_some_iff.1 hx).1;omega
  have Il:Bt st xs[i]=some x:=by
   have:=congrArg (·[i]?) e2
   simp only[List.getElem?_map,hx,List.getElem?_eq_getElem hi,Option.map_some,Option.some.injEq] at this;exact this
  exact (MS S (fQ.rel i xs[i] y (by simp[hi]) (by simpa using hy)) Il).le NG
def XW (w0:World) (ρ:Nat→Nat→Value) (st:St) (w:World) (d:Nat) (H:Nat→Obj→Prop) (f:Nat→AV→AV × List mI) (y:AV) (ks:List (Nat × Nat)) (u:Value):Prop :=
 (∀k∈ks,∃e,st.heap k.1 k.2=some e)∧∀c,(f c y).2.length=ks.length∧∀D:Ctx,(∀b o,H b o→D.h b o)→(∀(i:Nat) (k:Nat × Nat),ks[i]? = some k→c+i<D.aO d∧D.ρ d (c+i)=ρ k.1 k.2) →
  cS D (f c y).1 u∧∀(i:Nat) (e:mI) (k:Nat × Nat),(f c y).2[i]? = some e→ks[i]? = some k→mS D w w0.heap.size (ρ k.1 k.2) e
section pW
variable {h0:Nat→Obj→Prop} {w0:World} {F:Fz} {nt:Nat} {ρ:Nat→Nat→Value} {st:St} {a:Act} {w:World} {H:Nat→Obj→Prop}
theorem R5 (S:kA F h0 w0 nt ρ st a w) (hH:∀b o,(ctx h0 w0 ρ st w).h b o→H b o) {x y:AV} {u:Value} (hu:cS (ctx h0 w0 ρ st w) x u) (h:jV st x=some y) (d:Nat):XW w0 ρ st w d H (wY d) y (gA x) u:=by
 unfold jV at h;split at h
 ·rename_i hf;simp only[Option.some.injEq] at h;subst h;have hk:gA x=[]:=by cases hf<;>rfl
  rw[hk];refine⟨by simp,fun c=>?_⟩
  rw[Ir hf];exact⟨rfl,fun D hD _=>⟨hu.flat hf fun b o hb=>hD _ _ (hH _ _ hb),by simp⟩⟩
 ·split at h
  ·rename_i s g _;split at h
   ·rename_i e sz n cs he;split at h
    ·rename_i hf;simp only[Option.some.injEq] at h;subst h;obtain⟨_,h1,xs,ho,hc⟩:=S.rZ s g _ he
     have hu':u=ρ s g:=by cases hu;rfl
     subst hu'
     refine⟨by simp[gA];exact⟨_,he⟩,fun c=>⟨rfl,fun D hD kK=>?_⟩⟩
     obtain⟨k1,k2⟩:=kK 0 (s,g) rfl
     simp only[Nat.add_zero] at k1 k2;refine⟨?_,fun i e' k hi hk=>?_⟩
     ·have:=cS.own (C:=D) d c k1 (by rw[k2];exact h1)
      rw[k2] at this;exact this
     ·match i with
      | 0 =>
        simp only[wY,gA,List.getElem?_cons_zero,Option.some.injEq] at hi hk;subst hi;subst hk;exact⟨xs,ho,hc.flat hf fun b o hb=>hD _ _ (hH _ _ hb)⟩
      | i+1=>simp[gA] at hk
    ·cases h
   ·cases h
  ·cases h
theorem R6 {f:Nat→AV→AV × List mI} {kf:AV→List (Nat × Nat)} {d:Nat}:∀(xs ys:List AV) (us:List Value),xs.length=ys.length→xs.length=us.length →
 (∀(i:Nat) (x y:AV) (u:Value),xs[i]? = some x→ys[i]? = some y→us[i]? = some u→XW w0 ρ st w d H f y (kf x) u) →
 (∀k∈xs.flatMap kf,∃e,st.heap k.1 k.2=some e)∧∀c,(pJ f c ys).2.length=(xs.flatMap kf).length∧∀D:Ctx,(∀b o,H b o→D.h b o) →
  (∀(i:Nat) (k:Nat × Nat),(xs.flatMap kf)[i]? = some k→c+i<D.aO d∧D.ρ d (c+i)=ρ k.1 k.2) →
  kX D (pJ f c ys).1 us∧∀(i:Nat) (e:mI) (k:Nat × Nat),(pJ f c ys).2[i]? = some e→(xs.flatMap kf)[i]? = some k→mS D w w0.heap.size (ρ k.1 k.2) e
 | [],ys,us,h1,h2,_=>by
   have e1:ys=[]:=List.length_eq_zero_iff.1 (by simpa using h1.symm)
   have e2:us=[]:=List.length_eq_zero_iff.1 (by simpa using h2.symm)
   subst e1;subst e2;exact⟨by simp,fun c=>⟨rfl,fun D _ _=>⟨.nil _,by simp[pJ]⟩⟩⟩
 | x :: xs,[],us,h1,_,_=>by simp at h1
 | x :: xs,y :: ys,[],_,h2,_=>by simp at h2
 | x :: xs,y :: ys,u :: us,h1,h2,hg=>by
   obtain⟨g1,g2⟩:=hg 0 x y u rfl rfl rfl
   obtain⟨i1,i2⟩:=R6 xs ys us (by simpa using h1) (by simpa using h2) fun i x' y' u' hx hy hu=>hg (i+1) x' y' u' (by simpa using hx) (by simpa using hy) (by simpa using hu)
   refine⟨fun k hk=>?_,fun c=>?_⟩
   ·simp only[List.flatMap_cons,List.mem_append] at hk;rcases hk with hk|hk
    ·exact g1 k hk
    ·exact i1 k hk
   ·obtain⟨l1,m1⟩:=g2 c
    obtain⟨l2,m2⟩:=i2 (c+(f c y).2.length)
    rw[l1] at l2 m2;simp only[pJ,List.flatMap_cons,List.length_append,l1];refine⟨by rw[l2],fun D hD kK=>?_⟩
    obtain⟨r1,e1⟩:=m1 D hD fun i k hk=>kK i k (by rw[List.getElem?_append_left (List.getElem?_eq_some_iff.1 hk).1];exact hk)
    obtain⟨r2,e2⟩:=m2 D hD fun i k hk=>by
     have:=kK ((kf x).length+i) k (by rw[List.getElem?_append_right (by omega)];simpa using hk)
     rw[Nat.add_assoc];exact this
    refine⟨.cons r1 r2,fun i e k hi hk=>?_⟩
    by_cases bA:i<(kf x).length
    ·rw[List.getElem?_append_left (by rw[l1];exact bA)] at hi
     rw[List.getElem?_append_left bA] at hk;exact e1 i e k hi hk
    ·rw[List.getElem?_append_right (by rw[l1];omega),l1] at hi
     rw[List.getElem?_append_right (by omega)] at hk
     exact e2 _ e k hi hk
theorem Xx {α β:Type} {f:α→Option β} {l:List α} {r:List β} (h:cF (l.map f)=some r):l.length=r.length∧∀(i:Nat) x y,l[i]? = some x→r[i]? = some y→f x=some y:=by
 have hm:=jA _ _ h
 have hl:l.length=r.length:=by have:=congrArg List.length hm;simpa using this
 refine⟨hl,fun i x y hx hy=>?_⟩
 have:=congrArg (·[i]?) hm
 simp only[List.getElem?_map,hx,hy,Option.map_some,Option.some.injEq] at this;exact this
theorem aEg (S:kA F h0 w0 nt ρ st a w) (hH:∀b o,(ctx h0 w0 ρ st w).h b o→H b o) {x y:AV} {u:Value} (hu:cS (ctx h0 w0 ρ st w) x u) (h:rI st x=some y) (d:Nat):XW w0 ρ st w d H (Su d) y (iV x) u:=by
 cases x
 case agg cs =>
  simp only[rI,Option.map_eq_some_iff] at h;obtain⟨ds,Qn,rfl⟩:=h
  obtain⟨hl,r9⟩:=Xx Qn
  cases hu with
  | agg _ ar hla hr h1 =>
    obtain⟨g1,g2⟩:=R6 (w0:=w0) (ρ:=ρ) (st:=st) (w:=w) (H:=H) (f:=wY d) (kf:=gA) (d:=d) cs ds ar.toList hl (by simpa using hla) fun i x y v hx hy hv=>R5 S hH (hr i x v hx (by simpa using hv)) (r9 i x y hx hy) d
    refine⟨g1,fun c=>?_⟩
    obtain⟨l1,m1⟩:=g2 c
    refine⟨l1,fun D hD kK=>?_⟩
    obtain⟨r1,e1⟩:=m1 D hD kK
    exact⟨.agg _ ar (by simpa using r1.len) (fun i x y hx hy=>r1.rel i x y hx (by simpa using hy)) h1,e1⟩
 all_goals
  have g:=R5 S hH hu h d
  cases y<;>first|exact g|skip
  all_goals
   exfalso
   simp only[rI] at h;unfold jV at h;split at h
   ·simp at h
   ·simp at h
    try (split at h<;>(try split at h)<;>simp at h)
theorem aEh (S:kA F h0 w0 nt ρ st a w) (hH:∀b o,(ctx h0 w0 ρ st w).h b o→H b o) {x y:AV} {u:Value} (hu:cS (ctx h0 w0 ρ st w) x u) (h:Bu st x=some y) (d:Nat):XW w0 ρ st w d H (WC d) y (lD x) u:=by
 cases x
 case eB cs =>
  simp only[Bu,Option.map_eq_some_iff] at h;obtain⟨ds,Qn,rfl⟩:=h
  obtain⟨hl,r9⟩:=Xx Qn
  cases hu with
  | eB _ ar hla hr =>
    obtain⟨g1,g2⟩:=R6 (w0:=w0) (ρ:=ρ) (st:=st) (w:=w) (H:=H) (f:=Su d) (kf:=iV) (d:=d) cs ds ar.toList hl (by simpa using hla) fun i x y v hx hy hv=>aEg S hH (hr i x v hx (by simpa using hv)) (r9 i x y hx hy) d
    refine⟨g1,fun c=>?_⟩
    obtain⟨l1,m1⟩:=g2 c
    refine⟨l1,fun D hD kK=>?_⟩
    obtain⟨r1,e1⟩:=m1 D hD kK
    exact⟨.eB _ ar (by simpa using r1.len) (fun i x y hx hy=>r1.rel i x y hx (by simpa using hy)),e1⟩
 case agg cs =>
  have g:=aEg S hH hu h d
  cases y<;>first|exact g|(simp only[Bu,rI,Option.map_eq_some_iff] at h;obtain⟨_,_,h⟩:=h;cases h)
 all_goals
  have g:=R5 S hH hu h d
  cases y<;>first|exact g|skip
  all_goals
   exfalso
   simp only[Bu,rI] at h;unfold jV at h;split at h
   ·simp at h
   ·simp at h
    try (split at h<;>(try split at h)<;>simp at h)
theorem Sp (S:kA F h0 w0 nt ρ st a w) {x r:AV} {u:Value} (hu:cS (ctx h0 w0 ρ st w) x u) (hn:(lD x).Nodup) (h:Bu st x=some r):MO h0 w0 w r u:=by
 have hH:∀b o,(ctx h0 w0 ρ st w).h b o→newHs h0 w0 w ((lD x).map fun k=>ρ k.1 k.2) b o:=fun b o hb=>by
  have g:=(aEh (H:=(ctx h0 w0 ρ st w).h) S (fun _ _ h=>h) hu h 0).1
  refine⟨hb.1,hb.2.1,fun y hy=>?_⟩
  obtain⟨k,hk,rfl⟩:=List.mem_map.1 hy
  obtain⟨e,he⟩:=g k hk
  exact hb.2.2 _ _ e he
 have g:=fun d=>aEh S hH hu h d
 have key:∀y∈(lD x).map (fun k=>ρ k.1 k.2),∃k e,k∈lD x∧y=ρ k.1 k.2∧st.heap k.1 k.2=some e:=fun y hy=>by
  obtain⟨k,hk,rfl⟩:=List.mem_map.1 hy
  obtain⟨e,he⟩:=(g 0).1 k hk
  exact⟨k,e,hk,rfl,he⟩
 refine⟨(lD x).map fun k=>ρ k.1 k.2,fun y hy=>?_,fun i j y z b hy hz hb mZ=>?_,fun y hy b hb=>?_,fun d c=>by rw[((g d).2 c).1];simp,fun D d c hD kK=>?_⟩
 ·obtain⟨k,e,_,rfl,he⟩:=key y hy
  exact (S.rZ _ _ e he).2.1
 ·rw[List.getElem?_map] at hy hz;cases hi:(lD x)[i]? with
  | none=>simp[hi] at hy
  | some k=>cases hj:(lD x)[j]? with
    | none=>simp[hj] at hz
    | some k' =>
      simp only[hi,hj,Option.map_some,Option.some.injEq] at hy hz;subst hy;subst hz;obtain⟨e,he⟩:=(g 0).1 k (List.mem_of_getElem? hi)
      obtain⟨e',zH⟩:=(g 0).1 k' (List.mem_of_getElem? hj)
      obtain⟨q1,q2⟩:=S.inj _ _ _ _ e e' b he zH hb mZ
      have hkk:k=k':=Prod.ext q1 q2
      subst hkk;obtain⟨hil,Ay⟩:=List.getElem?_eq_some_iff.1 hi
      obtain⟨hjl,hje⟩:=List.getElem?_eq_some_iff.1 hj
      have hp:=List.pairwise_iff_getElem.1 hn
      rcases Nat.lt_trichotomy i j with bA|heq|bA
      ·exact absurd (Ay.trans hje.symm) (hp i j hil hjl bA)
      ·exact heq
      ·exact absurd (hje.trans Ay.symm) (hp j i hjl hil bA)
 ·obtain⟨k,e,_,rfl,he⟩:=key y hy
  exact ((S.rZ _ _ e he).2.2.QL b hb).1
 ·obtain⟨r1,e1⟩:=((g d).2 c).2 D hD fun i k hk=>kK i _ (by rw[List.getElem?_map,hk];rfl)
  refine⟨r1,fun i e y hi hy=>?_⟩
  rw[List.getElem?_map] at hy;cases hk:(lD x)[i]? with
  | none=>simp[hk] at hy
  | some k =>
    simp only[hk,Option.map_some,Option.some.injEq] at hy;subst hy;exact e1 i e k hi hk
end pW
theorem AZ {h0:Nat→Obj→Prop} {w0:World} {F:Fz} {nt:Nat} {ρ:Nat→Nat→Value} {st:St} {a:Act} {w:World} (S:kA F h0 w0 nt ρ st a w) {fn:Func} {r:AV} (h:Mc P fn st=some r) :
 ∃v,(results fn a.tmps).run P w=.ok v w∧MO h0 w0 w r v:=by
 have NH:∀(ys:List Value),(fn.results.toList.mapM (yV a.tmps)).run P w=.ok ys w →
  (results fn a.tmps).run P w=.ok (if h:ys.toArray.size=1 then ys.toArray[0] else .tuple ys.toArray) w:=by
  intro ys Te;have e:results fn a.tmps=(do let vs ← fn.results.mapM (yV a.tmps);pure (if h:vs.size=1 then vs[0] else .tuple vs)):=by
   unfold results;congr 1
  rw[e,Array.mapM_eq_mapM_toList];simp only[Sem.run_bind,Sem.run_map,Te,Result.andThen_ok,Sem.run_pure]
 unfold Mc at h;split at h
 ·rename_i r1 F2;cases h1:jR P st r1 with
  | none=>simp[h1,cH] at h
  | some x =>
    simp only[h1,cH] at h;split at h
    ·rename_i hn;obtain⟨ys,Te,fQ⟩:=lJ (P:=P) S [r1] [x] (by simp[h1])
     have hlen:=fQ.len
     obtain⟨y,rfl⟩:∃y,ys=[y]:=by
      cases ys with
      | nil=>simp at hlen
      | cons y ys=>cases ys with
        | nil=>exact⟨y,rfl⟩
        | cons z zs=>simp at hlen
     have pN:=NH [y] (by rw[F2];exact Te)
     simp at pN
     exact⟨y,pN,Sp S fQ.head hn h⟩
    ·cases h
 ·rename_i rs gN;cases GK:cF (fn.results.toList.map fun r=>jR P st r) with
  | none=>simp[GK,cH] at h
  | some xs =>
    simp only[GK,cH] at h;split at h
    ·rename_i hn;have e1:=jA _ _ GK
     obtain⟨ys,Te,fQ⟩:=lJ S _ xs e1
     have Pl:xs.length=fn.results.toList.length:=by have:=congrArg List.length e1;simpa using this.symm
     have R4:ys.toArray.size≠1:=by
      intro h1;have hlen:=fQ.len
      simp only[List.size_toArray] at h1;have:fn.results.toList.length=1:=by omega
      obtain⟨z,hz⟩:=List.length_eq_one_iff.1 this
      exact gN z hz
     have pN:=NH ys Te
     rw[dif_neg R4] at pN;exact⟨_,pN,Sp S (.eB xs ys.toArray (by simpa using fQ.len) fun i x y hx hy=>fQ.rel i x y hx (by simpa using hy)) hn h⟩
    ·cases h
theorem BA {h0:Nat→Obj→Prop} {w0:World} {F:Fz} {nt:Nat} {ρ:Nat→Nat→Value} {st:St} {a:Act} {w:World} (S:kA F h0 w0 nt ρ st a w) {f:Nat} {fn:Func} {r:AV} (h:jI P f fn st=some r) :
 ∃v,(results fn a.tmps).run P w=.ok v w∧MO h0 w0 w r v:=by
 unfold jI at h;split at h
 ·exact AZ S h
 ·exact HB S h
theorem R7 {h0:Nat→Obj→Prop} {w:World} {xs:List AV} {vs:Array Value} {nt:Nat} (hh:∀b o,h0 b o→w.heap[b]? = some o) (fQ:kX (bare h0) xs vs.toList) :
 kA Fz.none h0 w nt (fun _ _=>undef) (St.init xs) { tmps:=vs++Array.replicate (nt-vs.size) undef,defers:=[]} w:=by
 have k:(bare h0).Le (ctx h0 w (fun _ _=>undef) (St.init xs) w):=⟨fun b o h=>⟨hh b o h,fun _=>h,fun s g e he=>by simp[St.init] at he⟩,fun _=>Nat.le_refl _,fun _ _ h=>absurd h (by simp[bare])⟩
 refine⟨fun t=>?_,fun s g e he=>by simp[St.init] at he,fun s g s' g' e e' b he=>by simp[St.init] at he,⟨rfl,rfl,rfl,Nat.le_refl _,fun _ _ _=>rfl⟩,by simp;omega,rfl,⟨fun x v h=>h.elim,fun b o h=>h.elim,Nat.zero_le _⟩⟩
 have hlen:=fQ.len
 simp only[Array.length_toList] at hlen;show cS _ ((xs[t]?).getD (.v undef)) _
 by_cases ht:t<vs.size
 ·have hx:xs[t]? = some (xs[t]'(by omega)):=by simp[show t<xs.length by omega]
  have hy:vs.toList[t]? = some vs[t]:=by simp[ht]
  have:=(fQ.rel t _ _ hx hy).le k
  rw[hx];simp only[Option.getD_some];have e:(vs++Array.replicate (nt-vs.size) undef).getD t undef=vs[t]:=by
   simp[Array.getElem?_append_left ht,ht]
  rw[e];exact this
 ·have hx:xs[t]? = none:=List.getElem?_eq_none (by omega)
  rw[hx];have e:(vs++Array.replicate (nt-vs.size) undef).getD t undef=undef:=by
   rw[Array.getD_eq_getD_getElem?,Array.getElem?_append_right (by omega),Array.getElem?_replicate]
   split<;>rfl
  rw[e];exact .v _
def MI (P:Program):Prop:=qP P Ext.ext
theorem aBT {h0:Nat→Obj→Prop} {w0:World} {F:Fz} {nt:Nat} {ρ:Nat→Nat→Value} {st:St} {a:Act} {w:World} (S:kA F h0 w0 nt ρ st a w) {xs:List AV} {vs:Array Value} {n:Nat} (fQ:kX (ctx h0 w0 ρ st w) xs vs.toList) :
 kA ⟨fun x v=>F.fr x v∨∃t,x=st.env t∧v=a.tmps.getD t undef,F.hb,F.sz⟩ h0 w0 n ρ ((St.init xs).back st) { tmps:=vs++Array.replicate (n-vs.size) undef,defers:=[]} w:=by
 have hc:ctx h0 w0 ρ ((St.init xs).back st) w=ctx h0 w0 ρ st w:=rfl
 refine⟨fun t=>?_,fun s g e he=>?_,fun s g s' g' e e' b he zH=>S.inj s g s' g' e e' b he zH,S.ext,by simp;omega,rfl,⟨fun x v h=>?_,S.Lx.2.1,S.Lx.2.2⟩⟩
 ·have hlen:=fQ.len
  simp only[Array.length_toList] at hlen;show cS _ ((xs[t]?).getD (.v undef)) _
  by_cases ht:t<vs.size
  ·have hx:xs[t]? = some (xs[t]'(by omega)):=by simp[show t<xs.length by omega]
   have hy:vs.toList[t]? = some vs[t]:=by simp[ht]
   have:=fQ.rel t _ _ hx hy
   rw[hx];simp only[Option.getD_some];have e:(vs++Array.replicate (n-vs.size) undef).getD t undef=vs[t]:=by
    simp[Array.getElem?_append_left ht,ht]
   rw[e];exact this
  ·have hx:xs[t]? = none:=List.getElem?_eq_none (by omega)
   rw[hx];have e:(vs++Array.replicate (n-vs.size) undef).getD t undef=undef:=by
    rw[Array.getD_eq_getD_getElem?,Array.getElem?_append_right (by omega),Array.getElem?_replicate]
    split<;>rfl
   rw[e];exact .v _
 ·exact S.rZ s g e he
 ·rcases h with h|⟨t,rfl,rfl⟩
  ·exact S.Lx.1 x v h
  ·exact S.env t
theorem BB {h0:Nat→Obj→Prop} {w0:World} {F:Fz} {nt:Nat} {ρ:Nat→Nat→Value} {st:St} {a:Act} {w:World} (S:kA F h0 w0 nt ρ st a w) {fn:Func} {r:AV} (h:zS P fn st=some r) :
 ∃v,(results fn a.tmps).run P w=.ok v w∧cS (ctx h0 w0 ρ st w) r v:=by
 have NH:∀(ys:List Value),(fn.results.toList.mapM (yV a.tmps)).run P w=.ok ys w →
  (results fn a.tmps).run P w=.ok (if h:ys.toArray.size=1 then ys.toArray[0] else .tuple ys.toArray) w:=by
  intro ys Te;have e:results fn a.tmps=(do let vs ← fn.results.mapM (yV a.tmps);pure (if h:vs.size=1 then vs[0] else .tuple vs)):=by
   unfold results;congr 1
  rw[e,Array.mapM_eq_mapM_toList];simp only[Sem.run_bind,Sem.run_map,Te,Result.andThen_ok,Sem.run_pure]
 unfold zS at h;split at h
 ·rename_i r1 F2;obtain⟨ys,Te,fQ⟩:=lJ (P:=P) S [r1] [r] (by simp[h])
  have hlen:=fQ.len
  obtain⟨y,rfl⟩:∃y,ys=[y]:=by
   cases ys with
   | nil=>simp at hlen
   | cons y ys=>cases ys with
     | nil=>exact⟨y,rfl⟩
     | cons z zs=>simp at hlen
  have pN:=NH [y] (by rw[F2];exact Te)
  simp at pN
  exact⟨y,pN,fQ.head⟩
 ·rename_i rs gN;cases GK:cF (fn.results.toList.map fun r=>jR P st r) with
  | none=>simp[GK] at h
  | some xs =>
    simp only[GK,Option.map_some,Option.some.injEq] at h;subst h;have e1:=jA _ _ GK
    obtain⟨ys,Te,fQ⟩:=lJ S _ xs e1
    have Pl:xs.length=fn.results.toList.length:=by have:=congrArg List.length e1;simpa using this.symm
    have R4:ys.toArray.size≠1:=by
     intro h1;have hlen:=fQ.len
     simp only[List.size_toArray] at h1;have:fn.results.toList.length=1:=by omega
     obtain⟨z,hz⟩:=List.length_eq_one_iff.1 this
     exact gN z hz
    have pN:=NH ys Te
    rw[dif_neg R4] at pN;exact⟨_,pN,.eB xs ys.toArray (by simpa using fQ.len) fun i x y hx hy=>fQ.rel i x y hx (by simpa using hy)⟩
theorem BC {xs:List AV} {u:Nat × Nat × Nat × List AV × List AV} (h:tF xs=some u):xs=.uniq u.1 u.2.1 u.2.2.1 u.2.2.2.1 :: u.2.2.2.2:=by
 unfold tF at h;split at h
 ·simp only[Option.some.injEq] at h;subst h;rfl
 ·cases h
theorem v9 {h0:Nat→Obj→Prop} {w:World} {v0:Value} {e sz m:Nat} {cs xs:List AV} {ys:List Value} {vs:Array Value} {nt:Nat} (hh:∀b o,h0 b o→w.heap[b]? = some o) (gN:∀b o,h0 b o→dB v0≠some b) (ho:nD w 0 e sz v0 m ys) (hc:fR (bare h0) cs ys) (fQ:kX (bare h0) xs vs.toList) :
 kA ⟨fun _ _=>False,fun b o=>w.heap[b]? = some o∧dB v0≠some b,w.heap.size⟩ h0 { w with heap:=#[]} nt (fun s g=>if s=0∧g=0 then v0 else undef) (St.sN e sz m cs xs) { tmps:=(#[v0]++vs)++Array.replicate (nt-(#[v0]++vs).size) undef,defers:=[]} w:=by
 have yU:∀s g e',(St.sN e sz m cs xs).heap s g=some e'→s=0∧g=0∧e'=.row e sz m cs:=fun s g e' h=>by
  simp only[St.sN] at h;split at h
  ·rename_i h1;cases h;exact⟨h1.1,h1.2,rfl⟩
  ·cases h
 have k:(bare h0).Le (ctx h0 { w with heap:=#[]} (fun s g=>if s=0∧g=0 then v0 else undef) (St.sN e sz m cs xs) w) :=
  ⟨fun b o h=>⟨hh b o h,fun bA=>by simp at bA,fun s g e' he=>by
   obtain⟨rfl,rfl,_⟩:=yU _ _ _ he
   exact gN b o h⟩,fun _=>Nat.zero_le _,fun _ _ h=>absurd h (by simp[bare])⟩
 refine⟨fun t=>?_,fun s g e' he=>?_,fun s g s' g' e1 e2 b he zH _ _=>?_,⟨rfl,rfl,rfl,Nat.zero_le _,fun b hb _=>by simp at hb⟩,by simp;omega,rfl,⟨fun x v h=>h.elim,fun b o h=>⟨h.1,fun bA=>by simp at bA,fun s g e' he=>?_⟩,Nat.le_refl _⟩⟩
 ·have hlen:=fQ.len
  simp only[Array.length_toList] at hlen;cases t with
  | zero =>
    have e0:((#[v0]++vs)++Array.replicate (nt-(#[v0]++vs).size) undef).getD 0 undef=v0:=by
     simp[Array.getElem?_append]
    rw[e0];have:=cS.own (C:=ctx h0 { w with heap:=#[]} (fun s g=>if s=0∧g=0 then v0 else undef) (St.sN e sz m cs xs) w) 0 0 (by show 0<(St.sN e sz m cs xs).aO 0;simp[St.sN]) (by show (if (0:Nat)=0∧(0:Nat)=0 then v0 else undef).oneCell'=true;simp;exact sO ho)
    have e1:(ctx h0 { w with heap:=#[]} (fun s g=>if s=0∧g=0 then v0 else undef) (St.sN e sz m cs xs) w).ρ 0 0=v0:=by show (if (0:Nat)=0∧(0:Nat)=0 then v0 else undef)=v0;simp
    rw[e1] at this;exact this
  | succ t =>
    show cS _ ((xs[t]?).getD (.v undef)) _
    by_cases ht:t<vs.size
    ·have hx:xs[t]? = some (xs[t]'(by omega)):=by simp[show t<xs.length by omega]
     have hy:vs.toList[t]? = some vs[t]:=by simp[ht]
     have:=(fQ.rel t _ _ hx hy).le k
     rw[hx];simp only[Option.getD_some];have e2:((#[v0]++vs)++Array.replicate (nt-(#[v0]++vs).size) undef).getD (t+1) undef=vs[t]:=by
      rw[Array.getD_eq_getD_getElem?,Array.getElem?_append_left (by simp;omega),Array.getElem?_append_right (by simp)]
      simp[ht]
     rw[e2];exact this
    ·have hx:xs[t]? = none:=List.getElem?_eq_none (by omega)
     rw[hx];have e2:((#[v0]++vs)++Array.replicate (nt-(#[v0]++vs).size) undef).getD (t+1) undef=undef:=by
      rw[Array.getD_eq_getD_getElem?,Array.getElem?_append_right (by simp;omega),Array.getElem?_replicate]
      split<;>rfl
     rw[e2];exact .v _
 ·obtain⟨rfl,rfl,rfl⟩:=yU _ _ _ he
  refine⟨by simp[St.sN],by simp;exact sO ho, ?_⟩
  simp only[and_self,if_true];exact⟨ys,ho,hc.le k⟩
 ·obtain⟨rfl,rfl,_⟩:=yU _ _ _ he
  obtain⟨rfl,rfl,_⟩:=yU _ _ _ zH
  exact⟨rfl,rfl⟩
 ·obtain⟨rfl,rfl,_⟩:=yU _ _ _ he
  exact h.2
theorem aBU (hm:P.follows .mixedOrders=true) {call:Nat→List AV→Option AV} {inl:Nat→List AV→St→Option (AV × St)} (jU:qP P call) (Nz:Xr P inl) {n g:Nat} {xs:List AV} {u:Nat × Nat × Nat × List AV × List AV} (hq:tF xs=some u) {r:AV}
 (h:runM P call inl n g u.1 u.2.1 u.2.2.1 u.2.2.2.1 u.2.2.2.2=some r):Gz P g∧Gx P g xs r:=by
 have GK:=BC hq
 subst GK;obtain⟨e,sz,m,cs,rest⟩:=u
 simp only at h ⊢
 unfold runM at h;cases hf:P.funcs[g]? with
 | none=>simp[hf] at h
 | some fn =>
   simp only[hf] at h;split at h
   ·rename_i rK;cases hb:fn.body with
    | none=>simp[hb] at h
    | some c =>
      simp only[hb] at h;simp only[tY,CH,hb,Bool.and_eq_true,bne_iff_ne,ne_eq] at rK;refine⟨⟨fn,hf,by simpa using rK.1,by simp[hb]⟩, ?_⟩
      show TJ P g e sz m cs rest r
      intro w h0 v0 ys vs hh gN ho Az fQ;cases h1:tW P (mY c) call inl n c (St.sN e sz m cs rest) with
      | none=>simp[h1,cH] at h
      | some es =>
        obtain⟨ex,sf⟩:=es
        simp only[h1,cH] at h;refine calls_of_wp hf hb ?_
        refine pG hm jU Nz n c (St.sN e sz m cs rest) sf ex _ _ w _ rK.2 (v9 hh gN ho Az fQ) h1 fun nC a' w' S'=>?_
        have fin:zQ P fn sf=some r→∃e' sY n' Dd,r=.uniq e' sY n' Dd∧a'.defers=[]∧∃v',(results fn a'.tmps).run P w'=.ok v' w'∧w.grownBy w' (dB v0) ∧
         ∃zs,nD w' 0 e' sY v' n' zs∧fR (bare h0) Dd zs∧∀b,dB v'=some b→dB v0=some b∨w.heap.size≤b:=fun h=>by
         unfold zQ at h;split at h
         ·rename_i r1 F2;split at h
          ·rename_i s k hrv;split at h
           ·rename_i e' sY n' Dd hhp
            split at h
            ·rename_i hmf;simp only[Option.some.injEq] at h;subst h;obtain⟨y,hy,Ns⟩:=lJ (P:=P) S' [r1] [.own s k] (by simp[hrv])
             have hlen:=Ns.len
             obtain⟨z,rfl⟩:∃z,y=[z]:=by
              cases y with
              | nil=>simp at hlen
              | cons y ys=>cases ys with
                | nil=>exact⟨y,rfl⟩
                | cons z zs=>simp at hlen
             have hz:z=nC s k:=by
              have:=Ns.head
              cases this
              rfl
             subst hz;have pN:(results fn a'.tmps).run P w'=.ok (nC s k) w':=by
              have e1:results fn a'.tmps=(do let vs ← fn.results.mapM (yV a'.tmps);pure (if h:vs.size=1 then vs[0] else .tuple vs)):=by
               unfold results;congr 1
              rw[e1,Array.mapM_eq_mapM_toList,F2];simp only[Sem.run_bind,Sem.run_map,hy,Result.andThen_ok,Sem.run_pure];simp
             obtain⟨_,_,zs,hzo,P8⟩:=S'.rZ s k _ hhp
             obtain⟨_,hkb,hsz⟩:=S'.Lx
             refine⟨e',sY,n',Dd,rfl,S'.defers,_,pN,⟨S'.ext.os,S'.ext.tape,S'.ext.output,hsz,fun b hb hnb=>?_⟩,zs, ?_, ?_,fun b hb=>?_⟩
             ·have MQ:w.heap[b]? = some w.heap[b]:=Array.getElem?_eq_getElem hb
              rw[MQ];exact (hkb b _ ⟨MQ,fun h=>hnb h.symm⟩).1
             ·exact xY hzo (Nat.zero_le _)
             ·exact⟨P8.len,fun i x y hx hy=>(P8.rel i x y hx hy).Nq (hmf x (List.mem_of_getElem? hx)),P8.one⟩
             ·by_cases h1:dB v0=some b
              ·exact .inl h1
              ·right
               rcases Nat.lt_or_ge b w.heap.size with bA|hge
               ·exfalso
                have MQ:w.heap[b]? = some w.heap[b]:=Array.getElem?_eq_getElem bA
                exact (hkb b _ ⟨MQ,h1⟩).2.2 s k _ hhp hb
               ·exact hge
            ·cases h
           ·cases h
          ·rename_i s k n0 hrv;split at h
           ·rename_i e' sY n' Dd hhp
            split at h
            ·rename_i hmf;obtain⟨De,hcl',hmf⟩:=hmf
             simp only[Option.some.injEq] at h;subst h;obtain⟨y,hy,Ns⟩:=lJ (P:=P) S' [r1] [.vw s k 0 n0] (by simp[hrv])
             have hlen:=Ns.len
             obtain⟨z,rfl⟩:∃z,y=[z]:=by
              cases y with
              | nil=>simp at hlen
              | cons y ys=>cases ys with
                | nil=>exact⟨y,rfl⟩
                | cons z zs=>simp at hlen
             obtain⟨_,_,zs,hzo,P8⟩:=S'.rZ s k _ hhp
             obtain⟨_,hkb,hsz⟩:=S'.Lx
             have hz:∃b cap cur,z=.slice (some ⟨b,0,none⟩) n0 cap∧dB (nC s k)=some b∧w'.heap[b]? = some (.cells cur e' (0,0))∧n0≤cap∧cap≤maxLen∧cur.size=cap * sY∧cur.toList.take (n' * sY)=zs∧0<cap:=by
              have hv:=Ns.head
              cases hv with
              | vw _ _ _ _ b cap hg hb mJ xX =>
                have mZ:dB (nC s k)=some b:=hb
                rcases hzo.2 with ⟨q,kK,hn⟩|⟨b',Zy,cur,kK,vW,hh,u4,p6,GJ,ht,pY⟩
                ·rw[kK,pE] at mZ;cases mZ
                ·have wE:b'=b:=by rw[kK,jT pY] at mZ;simpa using mZ
                 subst wE;have hcc:cap=Zy:=xX rfl _ _ _ kK
                 subst hcc;exact⟨b',cap,cur,rfl,mZ,hh,mJ,p6,GJ,ht,pY⟩
             obtain⟨b,cap,cur,rfl,hbk,hhb,mJ,p6,GJ,ht,pY⟩:=hz
             have pN:(results fn a'.tmps).run P w'=.ok (.slice (some ⟨b,0,none⟩) n0 cap) w':=by
              have e1:results fn a'.tmps=(do let vs ← fn.results.mapM (yV a'.tmps);pure (if h:vs.size=1 then vs[0] else .tuple vs)):=by
               unfold results;congr 1
              rw[e1,Array.mapM_eq_mapM_toList,F2];simp only[Sem.run_bind,Sem.run_map,hy,Result.andThen_ok,Sem.run_pure];simp
             have hks:n0 * sY≤n' * sY:=Nat.mul_le_mul_right _ De
             refine⟨e',sY,n0,_,rfl,S'.defers,_,pN,⟨S'.ext.os,S'.ext.tape,S'.ext.output,hsz,fun b hb hnb=>?_⟩,zs.take (n0 * sY), ?_, ?_,fun b1 QY=>?_⟩
             ·have MQ:w.heap[b]? = some w.heap[b]:=Array.getElem?_eq_getElem hb
              rw[MQ];exact (hkb b _ ⟨MQ,fun h=>hnb h.symm⟩).1
             ·refine⟨by rw[List.length_take,hzo.1];omega,.inr ⟨b,cap,cur,rfl,Nat.zero_le _,hhb,mJ,p6,GJ, ?_,pY⟩⟩
              rw[← ht,List.take_take,Nat.min_eq_left hks]
             ·have hz2:fR (bare h0) Dd zs:=⟨P8.len,fun i x y hx hy=>(P8.rel i x y hx hy).Nq (hmf x (List.mem_of_getElem? hx)),P8.one⟩
              exact hz2.take _
             ·rw[jT pY] at QY;simp only[Option.some.injEq] at QY;subst QY;by_cases h1:dB v0=some b
              ·exact .inl h1
              ·right
               rcases Nat.lt_or_ge b w.heap.size with bA|hge
               ·exfalso
                have MQ:w.heap[b]? = some w.heap[b]:=Array.getElem?_eq_getElem bA
                exact (hkb b _ ⟨MQ,h1⟩).2.2 s k _ hhp hbk
               ·exact hge
            ·cases h
           ·cases h
          ·cases h
         ·cases h
        cases ex with
        | normal=>obtain⟨e',sY,n',Dd,rfl,h1,v',h2,h3,h4⟩:=fin h;exact⟨h1,v',h2,v',rfl,h3,h4⟩
        | ret=>obtain⟨e',sY,n',Dd,rfl,h1,v',h2,h3,h4⟩:=fin h;exact⟨h1,v',h2,v',rfl,h3,h4⟩
        | exit id=>cases h
   ·cases h
theorem XX (hm:P.follows .mixedOrders=true) (hx:MI P):∀n,qP P (Lw P n)∧Xr P (Uv P n)
 | 0=>⟨fun g xs r h=>hx g xs r h,fun g xs st r s' h=>by cases h⟩
 | n+1=>by
   obtain⟨ihc,ihi⟩:=XX hm hx n
   refine⟨fun g xs r h=>?_,fun g xs st r s' h=>?_⟩
   ·rw[xW] at h;split at h
    ·rename_i r' he
     simp only[Option.some.injEq] at h;subst h;exact hx g xs _ he
    ·cases hq:tF xs with
     | some u =>
       simp only[hq] at h;exact aBU hm ihc ihi hq h
     | none =>
     simp only[hq] at h;split at h
     ·cases h
     rename_i hnu;unfold YL at h;cases hf:P.funcs[g]? with
     | none=>simp[hf] at h
     | some fn =>
       simp only[hf] at h;split at h
       ·rename_i rK;cases hb:fn.body with
        | none=>simp[hb] at h
        | some c =>
          simp only[hb] at h;simp only[tY,CH,hb,Bool.and_eq_true,bne_iff_ne,ne_eq] at rK;have hX:GC P g xs r→Gx P g xs r:=fun h=>by
           unfold Gx;split
           ·simp[tE] at hnu
           ·exact h
          refine⟨⟨fn,hf,by simpa using rK.1,by simp[hb]⟩,hX fun w h0 vs hh fQ=>?_⟩
          cases h1:tW P (mY c) (Lw P n) (Uv P n) n c (St.init xs) with
          | none=>simp[h1,cH] at h
          | some es =>
            obtain⟨ex,sf⟩:=es
            simp only[h1,cH] at h;refine calls_of_wp hf hb ?_
            refine pG hm ihc ihi n c (St.init xs) sf ex _ _ w _ rK.2 (R7 hh fQ) h1 fun nC a' w' S'=>?_
            have fin:jI P g fn sf=some r→a'.defers=[]∧∃v,(results fn a'.tmps).run P w'=.ok v w'∧∃v',Ending.returned v=.returned v'∧MO h0 w w' r v'∧w.grownBy w' none:=fun h=>by
             obtain⟨v,hv,hr⟩:=BA S' h
             exact⟨S'.defers,v,hv,v,rfl,hr,S'.ext⟩
            cases ex with
            | normal=>exact fin h
            | ret=>exact fin h
            | exit id=>cases h
       ·cases h
   ·rw[Me] at h;unfold YM at h;cases hf:P.funcs[g]? with
    | none=>simp[hf] at h
    | some fn =>
      simp only[hf] at h;split at h
      ·rename_i rK;cases hb:fn.body with
       | none=>simp[hb] at h
       | some c =>
         simp only[hb] at h;simp only[CH,hb,Bool.and_eq_true,bne_iff_ne,ne_eq] at rK;refine⟨⟨fn,hf,by simpa using rK.1,by simp[hb]⟩,fun F h0 w0 nt ρ a w vs K S fQ hK=>?_⟩
         cases h1:tW P true (Lw P n) (Uv P n) n c ((St.init xs).back st) with
         | none=>simp[h1,cH] at h
         | some es =>
           obtain⟨ex,sf⟩:=es
           simp only[h1,cH] at h;refine calls_of_wp hf hb ?_
           refine pG (F:=⟨fun x v=>F.fr x v∨∃t,x=st.env t∧v=a.tmps.getD t undef,F.hb,F.sz⟩) hm ihc ihi n c ((St.init xs).back st) sf ex _ _ w _ rK.2 (aBT S fQ) h1 fun nC a' w' S'=>?_
           have fin:((zS P fn sf).map fun x=>(x,sf))=some (r,s')→a'.defers=[]∧∃v,(results fn a'.tmps).run P w'=.ok v w'∧∃v',Ending.returned v=.returned v'∧K v' w':=fun h=>by
            cases hfi:zS P fn sf with
            | none=>simp[hfi] at h
            | some x =>
              simp only[hfi,Option.map_some,Option.some.injEq,Prod.mk.injEq] at h;obtain⟨rfl,rfl⟩:=h
              obtain⟨v,hv,hr⟩:=BB S' hfi
              refine⟨S'.defers,v,hv,v,rfl,hK nC w' v ?_ hr⟩
              exact⟨fun t=>S'.Lx.1 _ _ (.inr ⟨t,rfl,rfl⟩),fun s g e he=>S'.rZ s g e he,fun s g s2 g' e e' b he zH=>S'.inj s g s2 g' e e' b he zH,S'.ext,S.size,S.defers,⟨fun x v h=>S'.Lx.1 x v (.inl h),S'.Lx.2.1,S'.Lx.2.2⟩⟩
           cases ex with
           | normal=>exact fin h
           | ret=>exact fin h
           | exit id=>cases h
      ·cases h
theorem aFD (hm:P.follows .mixedOrders=true) (hx:MI P) (n:Nat):qP P (Lw P n):=(XX hm hx n).1
end
end Go.Ab
end
section
namespace Go.Ab
open Classical
variable [Ext]
noncomputable def lT {α:Type} (g:Nat→Option α):Option α:=if h:∃n r,g n=some r then some (Classical.choose (Classical.choose_spec h)) else none
theorem Uo {α:Type} {g:Nat→Option α} (hm:∀n r,g n=some r→g (n+1)=some r) {n m:Nat} (h:n≤m) {r:α} (hr:g n=some r):g m=some r:=by
 induction m with
 | zero=>have:n=0:=by omega
         subst this;exact hr
 | succ m ih =>
   rcases Nat.lt_or_ge m n with h'|h'
   ·have:n=m+1:=by omega
    subst this;exact hr
   ·exact hm m r (ih h')
theorem HC {α:Type} {g:Nat→Option α} (hm:∀n r,g n=some r→g (n+1)=some r) (r:α):lT g=some r↔∃n,g n=some r:=by
 unfold lT;constructor
 ·intro h;split at h
  ·rename_i hh;simp only[Option.some.injEq] at h;exact⟨Classical.choose hh,by rw[← h];exact Classical.choose_spec (Classical.choose_spec hh)⟩
  ·cases h
 ·rintro⟨n,hn⟩
  have hh:∃n r,g n=some r:=⟨n,r,hn⟩
  rw[dif_pos hh];have h2:=Classical.choose_spec (Classical.choose_spec hh)
  congr 1
  rcases Nat.le_total n (Classical.choose hh) with hle|hle
  ·have:=Uo hm hle hn
   rw[h2] at this;exact Option.some.inj this
  ·have:=Uo hm hle h2
   rw[hn] at this;exact (Option.some.inj this).symm
theorem fI {α β:Type} {x:Option α} {f:α→Option β} {r:β}:cH x f=some r↔∃a,x=some a∧f a=some r:=by
 cases x<;>simp[cH]
def Xy (i i':Nat→List AV→St→Option (AV × St)):Prop:=∀g xs st r,i g xs st=some r→i' g xs st=some r
def uZ (c c':Nat→List AV→Option AV):Prop:=∀g xs r,c g xs=some r→c' g xs=some r
section
variable (P:Program) {c c':Nat→List AV→Option AV} {i i':Nat→List AV→St→Option (AV × St)} {bi:Bool}
theorem Xz {α β:Type} {x y:Option α} {f:α→Option β} {r:β} (h:∀a,x=some a→y=some a) (hx:cH x f=some r):cH y f=some r:=by
 cases Il:x with
 | none=>simp[Il,cH] at hx
 | some a=>rw[h a Il];rw[Il] at hx;exact hx
theorem Ao (h:uZ c c') {g:Nat} {args:List AV} {st:St} {dst:Option Nat} {e:qR} (he:aP c g args st dst=some e):aP c' g args st dst=some e:=by
 unfold aP at *
 split at he
 ·rename_i hf;rw[if_pos hf];exact Xz (h g args) he
 ·rename_i hf;rw[if_neg hf];split at he
  ·rename_i xs GK;exact Xz (h g xs) he
  ·cases he
theorem NI (h:uZ c c') {g:Nat} {args:List AV} {st:St} {dst:Option Nat} {e:qR} (he:kU c g args st dst=some e):kU c' g args st dst=some e:=by
 unfold kU at *
 split at he
 ·split at he
  ·rename_i e0 sz n cs hh;split at he
   ·rename_i hc;rename_i rest _;simp only[hh,if_pos hc];cases hr:c g (.uniq e0 sz n cs :: rest) with
    | none=>simp[hr] at he
    | some r=>rw[h _ _ _ hr];rw[hr] at he;exact he
   ·cases he
  ·cases he
 ·split at he
  ·rename_i hc;rw[if_pos hc];exact Ao h he
  ·cases he
theorem HD (h:uZ c c') {g:Nat} {args:List AV} {st:St} {dst:Option Nat} {e:qR} (he:eE c g args st dst=some e):eE c' g args st dst=some e:=by
 unfold eE at *
 split at he
 ·rename_i s k hk;split at he
  ·rename_i rK;rw[if_pos rK];split at he
   ·rename_i xs GK;exact Xz (h g xs) he
   ·cases he
  ·cases he
 ·rename_i hk;exact Ao h he
theorem HE (h:uZ c c') {f:Operand} {args:List AV} {st:St} {dst:Option Nat} {e:qR} (he:mX c f args st dst=some e):mX c' f args st dst=some e:=by
 cases f
 case func g =>
  simp only[mX] at *
  by_cases hm:Ext.mv g=true
  ·rw[if_pos hm] at *
   exact NI h he
  ·rw[if_neg hm] at *
   by_cases hm2:Ext.eat g dst=true
   ·rw[if_pos hm2] at *
    exact HD h he
   ·rw[if_neg hm2] at *
    exact Ao h he
 all_goals
  simp only[mX] at *
  split at he
  ·exact Ao h he
  ·cases he
theorem UC (h:uZ c c') {o:Oper} {st:St} {e:qR} (he:dH P c o st=some e):dH P c' o st=some e:=by
 obtain⟨dst,op,type,pos,after,guard⟩:=o
 cases op
 case call cl =>
  simp only[dH] at *
  unfold iA at *
  split at he
  ·exact HE h he
  all_goals exact he
 case makeMap T r=>cases r<;>exact he
 all_goals exact he
theorem w8 (h:uZ c c') {ops:Array Oper} {o:Oper} {st s:St} (he:cB P c ops o st=some s):cB P c' ops o st=some s:=by
 unfold cB at *
 split at he
 ·split at he
  ·rename_i b hg hb;rw[if_pos hb];cases h1:dH P c o st with
   | none=>simp[h1] at he
   | some e=>rw[UC P h h1];rw[h1] at he;exact he
  ·rename_i b hg hb;rw[if_neg hb];exact he
 ·cases he
theorem Ya (h:uZ c c') (hi:Xy i i') {ops:Array Oper} {o:Oper} {st s:St} (he:gK P bi c i ops o st=some s):gK P bi c' i' ops o st=some s:=by
 unfold gK at he ⊢
 cases hg:(if bi=true then Er o else none) with
 | none =>
   simp only[hg] at he ⊢;exact w8 P h he
 | some ga =>
   obtain⟨g,args⟩:=ga
   simp only[hg] at he ⊢;cases Q7:gv ops st o.guard with
   | none=>simp[Q7] at he
   | some t =>
     simp only[Q7] at he ⊢;cases t with
     | false=>exact he
     | true =>
       simp only[if_true] at he ⊢;cases h1:i g (args.map st.ev) st with
       | none=>simp[h1] at he
       | some r=>rw[hi _ _ _ _ h1];rw[h1] at he;exact he
theorem Ap (h:uZ c c') (hi:Xy i i') {ops:Array Oper}:∀(l:List Oper) {st s:St},lU P bi c i ops l st=some s→lU P bi c' i' ops l st=some s
 | [],st,s,he=>he
 | o :: l,st,s,he=>by
   simp only[lU] at *
   obtain⟨s1,h1,h2⟩:=fI.1 he
   exact fI.2 ⟨s1,Ya P h hi h1,Ap h hi l h2⟩
theorem nY (h:uZ c c') (hi:Xy i i'):∀(n m:Nat),n≤m→∀(x:Code) (st:St) (r:Ex × St),tW P bi c i n x st=some r→tW P bi c' i' m x st=some r
 | 0,_,_,_,_,_,he=>by simp[tW] at he
 | n+1,0,hle,_,_,_,_=>by omega
 | n+1,m+1,hle,x,st,r,he=>by
   have ih:=nY h hi n m (by omega)
   cases x<;>simp only[tW] at he ⊢<;>(try exact he)
   case region id ops draw =>
    obtain⟨s1,h1,h2⟩:=fI.1 he
    exact fI.2 ⟨s1,Ap P h hi _ h1,h2⟩
   case seq a b =>
    obtain⟨⟨e1,s1⟩,h1,h2⟩:=fI.1 he
    refine fI.2 ⟨(e1,s1),ih _ _ _ h1, ?_⟩
    cases e1 with
    | normal=>exact ih _ _ _ h2
    | _=>exact h2
   case cond cc a b =>
    split at he
    ·split at he
     ·rename_i hb;rw[if_pos hb];exact ih _ _ _ he
     ·rename_i hb;rw[if_neg hb];exact ih _ _ _ he
    ·cases he
   case block id b =>
    obtain⟨r1,h1,h2⟩:=fI.1 he
    exact fI.2 ⟨r1,ih _ _ _ h1,h2⟩
   case loop b =>
    obtain⟨⟨e1,s1⟩,h1,h2⟩:=fI.1 he
    refine fI.2 ⟨(e1,s1),ih _ _ _ h1, ?_⟩
    cases e1 with
    | normal=>exact ih _ _ _ h2
    | _=>exact h2
theorem Qu:∀n,uZ (Lw P n) (Lw P (n+1))∧Xy (Uv P n) (Uv P (n+1))
 | 0=>⟨fun g xs r h=>by
   rw[Uw] at h;rw[xW,h],fun g xs st r h=>by cases h⟩
 | n+1=>by
   obtain⟨ih,ii⟩:=Qu n
   refine⟨fun g xs r h=>?_,fun g xs st r h=>?_⟩
   ·rw[xW] at h ⊢;cases he:Ext.ext g xs with
    | some r'=>rw[he] at h;exact h
    | none =>
      simp only[he] at h;simp only
      cases hq:tF xs with
      | some u =>
        simp only[hq] at h;simp only
        unfold runM at h ⊢
        split at h
        ·split at h
         ·rename_i rK;rw[if_pos rK];split at h
          ·obtain⟨r1,h1,h2⟩:=fI.1 h
           exact fI.2 ⟨r1,nY P ih ii n (n+1) (by omega) _ _ _ h1,h2⟩
          ·cases h
         ·cases h
        ·cases h
      | none =>
        simp only[hq] at h;simp only
        by_cases hu:xs.any tE=true
        ·rw[if_pos hu] at h;cases h
        ·rw[if_neg hu] at h ⊢;unfold YL at h ⊢
         split at h
         ·split at h
          ·rename_i rK;rw[if_pos rK];split at h
           ·obtain⟨r1,h1,h2⟩:=fI.1 h
            exact fI.2 ⟨r1,nY P ih ii n (n+1) (by omega) _ _ _ h1,h2⟩
           ·cases h
          ·cases h
         ·cases h
   ·rw[Me] at h ⊢;unfold YM at h ⊢
    split at h
    ·split at h
     ·rename_i rK;rw[if_pos rK];split at h
      ·obtain⟨r1,h1,h2⟩:=fI.1 h
       exact fI.2 ⟨r1,nY P ih ii n (n+1) (by omega) _ _ _ h1,h2⟩
      ·cases h
     ·cases h
    ·cases h
theorem Yb (n:Nat):uZ (Lw P n) (Lw P (n+1)):=(Qu P n).1
theorem Yc (n:Nat):Xy (Uv P n) (Uv P (n+1)):=(Qu P n).2
theorem Bk {n m:Nat} (h:n≤m):uZ (Lw P n) (Lw P m):=fun g xs r hr =>
 Uo (g:=fun n=>Lw P n g xs) (fun n r=>Yb P n g xs r) h hr
theorem Bl {n m:Nat} (h:n≤m):Xy (Uv P n) (Uv P m):=fun g xs st r hr =>
 Uo (g:=fun n=>Uv P n g xs st) (fun n r=>Yc P n g xs st r) h hr
noncomputable def aD (f:Nat) (xs:List AV):Option AV:=lT fun n=>Lw P n f xs
noncomputable def Cg (f:Nat) (xs:List AV) (st:St):Option (AV × St):=lT fun n=>Uv P n f xs st
noncomputable def vT (bi:Bool) (x:Code) (st:St):Option (Ex × St):=lT fun n=>tW P bi (Lw P n) (Uv P n) n x st
theorem xV {f:Nat} {xs:List AV} {r:AV}:aD P f xs=some r↔∃n,Lw P n f xs=some r:=HC (fun n r=>Yb P n f xs r) r
theorem Yd {f:Nat} {xs:List AV} {st:St} {r:AV × St}:Cg P f xs st=some r↔∃n,Uv P n f xs st=some r:=HC (fun n r=>Yc P n f xs st r) r
theorem gG {x:Code} {st:St} {r:Ex × St}:vT P bi x st=some r↔∃n m,tW P bi (Lw P n) (Uv P n) m x st=some r:=by
 unfold vT;rw[HC (fun n r=>nY P (Yb P n) (Yc P n) n (n+1) (by omega) x st r)]
 constructor
 ·rintro⟨n,h⟩;exact⟨n,n,h⟩
 ·rintro⟨n,m,h⟩
  exact⟨max n m,nY P (Bk P (Nat.le_max_left n m)) (Bl P (Nat.le_max_left n m)) m _ (Nat.le_max_right n m) x st r h⟩
theorem TE (hm:P.follows .mixedOrders=true) (hx:MI P) {f:Nat} {xs:List AV} {r:AV} (h:aD P f xs=some r):Gx P f xs r:=by
 obtain⟨n,hn⟩:=(xV P).1 h
 exact (aFD hm hx n f xs r hn).2
theorem aBV (n:Nat):Xy (Uv P n) (Cg P):=fun g xs st r h=>(Yd P).2 ⟨n,h⟩
theorem R9 (n:Nat):uZ (Lw P n) (aD P):=fun g xs r h=>(xV P).2 ⟨n,h⟩
theorem HF {β:Type} {g:Nat} {xs:List AV} {f:AV→Option β} {r:β} (h:cH (aD P g xs) f=some r):∃n,cH (Lw P n g xs) f=some r:=by
 obtain⟨a,h1,h2⟩:=fI.1 h
 obtain⟨n,hn⟩:=(xV P).1 h1
 exact⟨n,fI.2 ⟨a,hn,h2⟩⟩
theorem Ei {g:Nat} {args:List AV} {st:St} {dst:Option Nat} {e:qR} (h:aP (aD P) g args st dst=some e):∃n,aP (Lw P n) g args st dst=some e:=by
 unfold aP at h ⊢
 split at h
 ·rename_i hf;obtain⟨n,hn⟩:=HF P h
  exact⟨n,by rw[if_pos hf];exact hn⟩
 ·rename_i hf;split at h
  ·rename_i xs GK;obtain⟨n,hn⟩:=HF P h
   exact⟨n,by rw[if_neg hf];exact hn⟩
  ·cases h
theorem UD {g:Nat} {args:List AV} {st:St} {dst:Option Nat} {e:qR} (h:kU (aD P) g args st dst=some e):∃n,kU (Lw P n) g args st dst=some e:=by
 unfold kU at h ⊢
 split at h
 ·rename_i s k rest;split at h
  ·rename_i e0 sz n cs hh;split at h
   ·rename_i hc;simp only[hh,if_pos hc];cases hr:aD P g (.uniq e0 sz n cs :: rest) with
    | none=>simp[hr] at h
    | some r =>
      obtain⟨m,hm⟩:=(xV P).1 hr
      exact⟨m,by rw[hm];rw[hr] at h;exact h⟩
   ·cases h
  ·cases h
 ·split at h
  ·rename_i hc;simp only[if_pos hc];exact Ei P h
  ·cases h
theorem NJ {g:Nat} {args:List AV} {st:St} {dst:Option Nat} {e:qR} (h:eE (aD P) g args st dst=some e):∃n,eE (Lw P n) g args st dst=some e:=by
 unfold eE at h ⊢
 split at h
 ·rename_i s k hk;split at h
  ·rename_i rK;simp only[if_pos rK];split at h
   ·rename_i xs GK;exact HF P h
   ·cases h
  ·cases h
 ·rename_i hk;obtain⟨n,hn⟩:=Ei P h
  exact⟨n,hn⟩
theorem y7 {o:Oper} {st:St} {e:qR} (h:dH P (aD P) o st=some e):∃n,dH P (Lw P n) o st=some e:=by
 obtain⟨dst,op,type,pos,after,guard⟩:=o
 cases op
 case call cl =>
  simp only[dH] at *
  unfold iA at *
  split at h
  ·unfold mX at h ⊢
   split at h
   ·split at h
    ·rename_i hm;obtain⟨n,hn⟩:=UD P h
     exact⟨n,by simp only[hm,if_true];exact hn⟩
    ·rename_i hm;split at h
     ·rename_i hm2;obtain⟨n,hn⟩:=NJ P h
      exact⟨n,by rw[if_neg hm,if_pos hm2];exact hn⟩
     ·rename_i hm2;obtain⟨n,hn⟩:=Ei P h
      exact⟨n,by rw[if_neg hm,if_neg hm2];exact hn⟩
   ·split at h
    ·exact Ei P h
    ·cases h
  all_goals exact⟨0,h⟩
 case makeMap T r=>cases r<;>exact⟨0,h⟩
 all_goals exact⟨0,h⟩
theorem S3 {ops:Array Oper} {o:Oper} {st s:St} (h:cB P (aD P) ops o st=some s):∃n,cB P (Lw P n) ops o st=some s:=by
 unfold cB at *
 split at h
 ·split at h
  ·rename_i b hg hb;cases h1:dH P (aD P) o st with
   | none=>simp[h1] at h
   | some e =>
     obtain⟨n,hn⟩:=y7 P h1
     refine⟨n, ?_⟩
     rw[if_pos hb,hn];rw[h1] at h;exact h
  ·rename_i b hg hb;exact⟨0,by rw[if_neg hb];exact h⟩
 ·cases h
theorem y8 {ops:Array Oper} {o:Oper} {st s:St} (h:gK P bi (aD P) (Cg P) ops o st=some s):∃n,gK P bi (Lw P n) (Uv P n) ops o st=some s:=by
 unfold gK at h ⊢
 cases hg:(if bi=true then Er o else none) with
 | none =>
   simp only[hg] at h ⊢;exact S3 P h
 | some ga =>
   obtain⟨g,args⟩:=ga
   simp only[hg] at h ⊢;cases Q7:gv ops st o.guard with
   | none=>simp[Q7] at h
   | some t =>
     simp only[Q7] at h ⊢;cases t with
     | false=>exact⟨0,h⟩
     | true =>
       simp only[if_true] at h ⊢;cases h1:Cg P g (args.map st.ev) st with
       | none=>simp[h1] at h
       | some r =>
         obtain⟨n,hn⟩:=(Yd P).1 h1
         refine⟨n, ?_⟩
         rw[h1] at h;rw[hn];exact h
theorem Ye {ops:Array Oper}:∀(l:List Oper) {st s:St},lU P bi (aD P) (Cg P) ops l st=some s→∃n,lU P bi (Lw P n) (Uv P n) ops l st=some s
 | [],st,s,h=>⟨0,h⟩
 | o :: l,st,s,h=>by
   simp only[lU] at *
   obtain⟨s1,h1,h2⟩:=fI.1 h
   obtain⟨n,hn⟩:=y8 P h1
   obtain⟨m,hm⟩:=Ye l h2
   exact⟨max n m,fI.2 ⟨s1,Ya P (Bk P (Nat.le_max_left n m)) (Bl P (Nat.le_max_left n m)) hn,Ap P (Bk P (Nat.le_max_right n m)) (Bl P (Nat.le_max_right n m)) l hm⟩⟩
theorem Ob {cc:Nat→List AV→Option AV} {ii:Nat→List AV→St→Option (AV × St)} {ops:Array Oper}:∀(l:List Oper) (st:St),lU P false cc ii ops l st=Ma P cc ops l st
 | [],st=>rfl
 | o :: l,st=>by
   have e:∀s,gK P false cc ii ops o s=cB P cc ops o s:=fun s=>rfl
   unfold lU Ma;rw[e];congr 1
   funext s
   exact Ob l s
theorem NK (st:St):vT P bi .skip st=some (.normal,st):=(gG P).2 ⟨0,1,rfl⟩
theorem NL (id:Nat) (st:St):vT P bi (.exit id) st=some (.exit id,st):=(gG P).2 ⟨0,1,rfl⟩
theorem XY (st:St):vT P bi .ret st=some (.ret,st):=(gG P).2 ⟨0,1,rfl⟩
theorem Yf (id:Nat) (ops:Array Oper) (d:Bool) (st:St):vT P bi (.region id ops d) st=cH (lU P bi (aD P) (Cg P) ops ops.toList st) fun s=>if bi=true∧¬pP ops s (Ext.dyn id ops.size (rM ops)) then none else some (.normal,s):=by
 apply Option.ext
 intro r;rw[gG,fI];constructor
 ·rintro⟨n,m,h⟩
  cases m with
  | zero=>simp[tW] at h
  | succ m =>
    simp only[tW] at h;obtain⟨s1,h1,h2⟩:=fI.1 h
    exact⟨s1,Ap P (R9 P n) (aBV P n) _ h1,h2⟩
 ·rintro⟨s1,h1,h2⟩
  obtain⟨n,hn⟩:=Ye P _ h1
  exact⟨n,1,by simp only[tW];exact fI.2 ⟨s1,hn,h2⟩⟩
def Yg (r:Ex × St) (k:St→Option (Ex × St)):Option (Ex × St) :=
 match r.1 with
 | .normal=>k r.2
 | e=>some (e,r.2)
theorem FM (a b:Code) (st:St):vT P bi (.seq a b) st=cH (vT P bi a st) fun r=>Yg r (vT P bi b):=by
 apply Option.ext
 intro r;rw[gG,fI];constructor
 ·rintro⟨n,m,h⟩
  cases m with
  | zero=>simp[tW] at h
  | succ m =>
    simp only[tW] at h;obtain⟨⟨e1,s1⟩,h1,h2⟩:=fI.1 h
    refine⟨(e1,s1),(gG P).2 ⟨n,m,h1⟩, ?_⟩
    cases e1 with
    | normal=>exact (gG P).2 ⟨n,m,h2⟩
    | _=>exact h2
 ·rintro⟨⟨e1,s1⟩,h1,h2⟩
  obtain⟨n1,m1,h1⟩:=(gG P).1 h1
  cases e1 with
  | normal =>
    obtain⟨n2,m2,h2⟩:=(gG P).1 h2
    refine⟨max n1 n2,max m1 m2+1, ?_⟩
    simp only[tW];exact fI.2 ⟨(.normal,s1),nY P (Bk P (Nat.le_max_left _ _)) (Bl P (Nat.le_max_left _ _)) _ _ (Nat.le_max_left _ _) _ _ _ h1,nY P (Bk P (Nat.le_max_right _ _)) (Bl P (Nat.le_max_right _ _)) _ _ (Nat.le_max_right _ _) _ _ _ h2⟩
  | exit id=>exact⟨n1,m1+1,by simp only[tW];exact fI.2 ⟨(.exit id,s1),h1,h2⟩⟩
  | ret=>exact⟨n1,m1+1,by simp only[tW];exact fI.2 ⟨(.ret,s1),h1,h2⟩⟩
theorem NM (b:Code) (st:St):vT P bi (.loop b) st=cH (vT P bi b st) fun r=>Yg r (vT P bi (.loop b)):=by
 apply Option.ext
 intro r;rw[gG,fI];constructor
 ·rintro⟨n,m,h⟩
  cases m with
  | zero=>simp[tW] at h
  | succ m =>
    simp only[tW] at h;obtain⟨⟨e1,s1⟩,h1,h2⟩:=fI.1 h
    refine⟨(e1,s1),(gG P).2 ⟨n,m,h1⟩, ?_⟩
    cases e1 with
    | normal=>exact (gG P).2 ⟨n,m,h2⟩
    | _=>exact h2
 ·rintro⟨⟨e1,s1⟩,h1,h2⟩
  obtain⟨n1,m1,h1⟩:=(gG P).1 h1
  cases e1 with
  | normal =>
    obtain⟨n2,m2,h2⟩:=(gG P).1 h2
    refine⟨max n1 n2,max m1 m2+1, ?_⟩
    simp only[tW];exact fI.2 ⟨(.normal,s1),nY P (Bk P (Nat.le_max_left _ _)) (Bl P (Nat.le_max_left _ _)) _ _ (Nat.le_max_left _ _) _ _ _ h1,nY P (Bk P (Nat.le_max_right _ _)) (Bl P (Nat.le_max_right _ _)) _ _ (Nat.le_max_right _ _) _ _ _ h2⟩
  | exit id=>exact⟨n1,m1+1,by simp only[tW];exact fI.2 ⟨(.exit id,s1),h1,h2⟩⟩
  | ret=>exact⟨n1,m1+1,by simp only[tW];exact fI.2 ⟨(.ret,s1),h1,h2⟩⟩
theorem EB (id:Nat) (b:Code) (st:St):vT P bi (.block id b) st=cH (vT P bi b st) fun r=>some (r.1.inBlock id,r.2):=by
 apply Option.ext
 intro r;rw[gG,fI];constructor
 ·rintro⟨n,m,h⟩
  cases m with
  | zero=>simp[tW] at h
  | succ m =>
    simp only[tW] at h;obtain⟨r1,h1,h2⟩:=fI.1 h
    exact⟨r1,(gG P).2 ⟨n,m,h1⟩,h2⟩
 ·rintro⟨r1,h1,h2⟩
  obtain⟨n1,m1,h1⟩:=(gG P).1 h1
  exact⟨n1,m1+1,by simp only[tW];exact fI.2 ⟨r1,h1,h2⟩⟩
theorem NN (c:Operand) (a b:Code) (st:St) {t:Bool} (hc:st.ev c=.v (.bool t)):vT P bi (.cond c a b) st=if t=true then vT P bi a st else vT P bi b st:=by
 apply Option.ext
 intro r;rw[gG];constructor
 ·rintro⟨n,m,h⟩
  cases m with
  | zero=>simp[tW] at h
  | succ m =>
    simp only[tW,hc] at h;split at h
    ·rename_i hb;rw[if_pos hb];exact (gG P).2 ⟨n,m,h⟩
    ·rename_i hb;rw[if_neg hb];exact (gG P).2 ⟨n,m,h⟩
 ·intro h;split at h
  ·rename_i hb;obtain⟨n,m,h⟩:=(gG P).1 h
   exact⟨n,m+1,by simp only[tW,hc];rw[if_pos hb];exact h⟩
  ·rename_i hb;obtain⟨n,m,h⟩:=(gG P).1 h
   exact⟨n,m+1,by simp only[tW,hc];rw[if_neg hb];exact h⟩
noncomputable def yB (x:Code) (st:St):Option (Ex × St):=vT P false x st
theorem XZ {x:Code} {st:St} {r:Ex × St}:yB P x st=some r↔∃n m,tW P false (Lw P n) (Uv P n) m x st=some r:=gG P
theorem S4 (st:St):yB P .skip st=some (.normal,st):=NK P st
theorem S5 (id:Nat) (st:St):yB P (.exit id) st=some (.exit id,st):=NL P id st
theorem aBW (st:St):yB P .ret st=some (.ret,st):=XY P st
theorem UE (id:Nat) (ops:Array Oper) (d:Bool) (st:St):yB P (.region id ops d) st=cH (Ma P (aD P) ops ops.toList st) fun s=>some (.normal,s):=by
 rw[← Ob P (ii:=Cg P)];have h:=Yf P (bi:=false) id ops d st
 simp only[Bool.false_eq_true,false_and,if_false] at h;exact h
theorem aBX (a b:Code) (st:St):yB P (.seq a b) st=cH (yB P a st) fun r=>Yg r (yB P b):=FM P a b st
theorem Gd (b:Code) (st:St):yB P (.loop b) st=cH (yB P b st) fun r=>Yg r (yB P (.loop b)):=NM P b st
theorem y9 (id:Nat) (b:Code) (st:St):yB P (.block id b) st=cH (yB P b st) fun r=>some (r.1.inBlock id,r.2):=EB P id b st
theorem S6 (c:Operand) (a b:Code) (st:St) {t:Bool} (hc:st.ev c=.v (.bool t)):yB P (.cond c a b) st=if t=true then yB P a st else yB P b st:=NN P c a b st hc
noncomputable def zK (f:Nat) (fn:Func) (r:Ex × St):Option AV :=
 match r.1 with
 | .exit _=>none
 | _=>jI P f fn r.2
def bG (fn:Func):Bool:=tY fn && (match fn.body with|some c=>!mY c|none=>true)
theorem Js {xs:List AV} (h:xs.any tE=false):tF xs=none:=by
 cases xs with
 | nil=>rfl
 | cons x xs =>
   cases x<;>first|rfl|simp[tE] at h
noncomputable def l9 (fn:Func) (r:Ex × St):Option AV :=
 match r.1 with
 | .exit _=>none
 | _=>zQ P fn r.2
theorem LG {f:Nat} {fn:Func} {c:Code} (hf:P.funcs[f]? = some fn) (hb:fn.body=some c) (rK:tY fn=true) (e sz m:Nat) (cs xs:List AV) (hx:Ext.ext f (.uniq e sz m cs :: xs)=none) :
 aD P f (.uniq e sz m cs :: xs)=cH (vT P (mY c) c (St.sN e sz m cs xs)) (l9 P fn):=by
 apply Option.ext
 intro r;rw[xV,fI];have hq:tF (.uniq e sz m cs :: xs)=some (e,sz,m,cs,xs):=rfl
 constructor
 ·rintro⟨n,h⟩
  cases n with
  | zero=>rw[Uw,hx] at h;cases h
  | succ n =>
    simp only[xW,hx,hq,runM,hf,rK,hb,if_true] at h;obtain⟨r1,h1,h2⟩:=fI.1 h
    exact⟨r1,(gG P).2 ⟨n,n,h1⟩,h2⟩
 ·rintro⟨r1,h1,h2⟩
  obtain⟨n,m',h1⟩:=(gG P).1 h1
  refine⟨max n m'+1, ?_⟩
  simp only[xW,hx,hq,runM,hf,rK,hb,if_true];exact fI.2 ⟨r1,nY P (Bk P (Nat.le_max_left _ _)) (Bl P (Nat.le_max_left _ _)) _ _ (Nat.le_max_right _ _) _ _ _ h1,h2⟩
theorem NO {f:Nat} {fn:Func} {c:Code} (hf:P.funcs[f]? = some fn) (hb:fn.body=some c) (rK:tY fn=true) (xs:List AV) (hx:Ext.ext f xs=none) (hu:xs.any tE=false):aD P f xs=cH (vT P (mY c) c (St.init xs)) (zK P f fn):=by
 apply Option.ext
 intro r;rw[xV,fI];constructor
 ·rintro⟨n,h⟩
  cases n with
  | zero=>rw[Uw,hx] at h;cases h
  | succ n =>
    simp only[xW,hx,Js hu,hu,YL,hf,rK,hb,if_true] at h;obtain⟨r1,h1,h2⟩:=fI.1 h
    exact⟨r1,(gG P).2 ⟨n,n,h1⟩,h2⟩
 ·rintro⟨r1,h1,h2⟩
  obtain⟨n,m,h1⟩:=(gG P).1 h1
  refine⟨max n m+1, ?_⟩
  simp only[xW,hx,Js hu,hu,YL,hf,rK,hb,if_true];exact fI.2 ⟨r1,nY P (Bk P (Nat.le_max_left _ _)) (Bl P (Nat.le_max_left _ _)) _ _ (Nat.le_max_right _ _) _ _ _ h1,h2⟩
theorem S7 {f:Nat} {fn:Func} {c:Code} (hf:P.funcs[f]? = some fn) (hb:fn.body=some c) (rK:bG fn=true) (xs:List AV) (hx:Ext.ext f xs=none) (hu:xs.any tE=false):aD P f xs=cH (yB P c (St.init xs)) (zK P f fn):=by
 simp only[bG,hb,Bool.and_eq_true,Bool.not_eq_true'] at rK;rw[NO P hf hb rK.1 xs hx hu,rK.2];rfl
noncomputable def aFE (fn:Func) (r:Ex × St):Option (AV × St) :=
 match r.1 with
 | .exit _=>none
 | _=>(zS P fn r.2).map fun x=>(x,r.2)
theorem FN {f:Nat} {fn:Func} {c:Code} (hf:P.funcs[f]? = some fn) (hb:fn.body=some c) (rK:CH true fn=true) (xs:List AV) (st:St):Cg P f xs st=cH (vT P true c ((St.init xs).back st)) (aFE P fn):=by
 apply Option.ext
 intro r;rw[Yd,fI];constructor
 ·rintro⟨n,h⟩
  cases n with
  | zero=>rw[G0] at h;cases h
  | succ n =>
    simp only[Me,YM,hf,rK,hb,if_true] at h;obtain⟨r1,h1,h2⟩:=fI.1 h
    exact⟨r1,(gG P).2 ⟨n,n,h1⟩,h2⟩
 ·rintro⟨r1,h1,h2⟩
  obtain⟨n,m,h1⟩:=(gG P).1 h1
  refine⟨max n m+1, ?_⟩
  simp only[Me,YM,hf,rK,hb,if_true];exact fI.2 ⟨r1,nY P (Bk P (Nat.le_max_left _ _)) (Bl P (Nat.le_max_left _ _)) _ _ (Nat.le_max_right _ _) _ _ _ h1,h2⟩
end
end Go.Ab
end
