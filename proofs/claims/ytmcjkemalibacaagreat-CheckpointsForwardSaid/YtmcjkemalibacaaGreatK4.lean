/-
  Part 4 of the proof: an evaluator of programs, its soundness, and what functions of this program compute.
-/
import Derived.Test.YtmcjkemalibacaaGreatK3
set_option linter.all false
set_option maxRecDepth 20000
set_option maxHeartbeats 40000000
open List
noncomputable section
section
namespace Go.Ab
open Classical
variable [Ext]
def CX (ops:Array Oper) (acc:Array Nat):Prop :=
 ∀j o,j<acc.size->ops[j]? = some o->∀k,(acc.getD j 0).testBit k=true->∃e∈o.after,Region.binds .any e=true/\(e.on=k\/(acc.getD e.on 0).testBit k=true)
theorem KE (acc:Array Nat) (k:Nat):∀(l:List Edge) (s:Nat),(l.foldl (fun s e=>if Region.binds .any e=true then s ||| 2 ^ e.on ||| acc.getD e.on 0 else s) s).testBit k=true ->
 s.testBit k=true\/∃e∈l,Region.binds .any e=true/\(e.on=k\/(acc.getD e.on 0).testBit k=true)
 | [],s,h=>.inl h
 | e :: l,s,h=>by
   simp only[foldl_cons] at h;rcases KE acc k l _ h with h|⟨e',zX,h⟩
   ·split at h
    ·rename_i hb;simp only[Nat.testBit_or,Bool.or_eq_true] at h;rcases h with (h|h)|h
     ·exact .inl h
     ·rw[Nat.testBit_two_pow] at h;exact .inr ⟨e,by simp,hb,.inl (by simpa using h)⟩
     ·exact .inr ⟨e,by simp,hb,.inr h⟩
    ·exact .inl h
   ·exact .inr ⟨e',by simp[zX],h⟩
theorem KF {α:Type} (n:Nat) (k:Nat->α):forced n k=k n:=by cases n<;>rfl
theorem CY (ops:Array Oper):∀(l:List Oper) (acc:Array Nat),(∀i o,l[i]? = some o->ops[acc.size+i]? = some o)->CX ops acc->CX ops (HT l acc)
 | [],acc,_,h=>h
 | o :: l,acc,hl,h=>by
   unfold HT;rw[KF];refine CY ops l _ (fun i o' ho'=>?_) ?_
   ·have:=hl (i+1) o' (by simpa using ho')
    simp only[Array.size_push];rw[<- this];congr 1
    omega
   ·intro j oj hj hoj k hk;have pI:∀x,(acc.getD x 0).testBit k=true->((acc.push (XW acc o)).getD x 0).testBit k=true:=fun x hx=>by
     have aW:x<acc.size:=by
      rcases Nat.lt_or_ge x acc.size with h'|h'
      ·exact h'
      ·simp[Array.getElem?_eq_none h'] at hx
     simp only[Array.getD_eq_getD_getElem?,Array.getElem?_push_lt aW] at hx ⊢;simpa [aW] using hx
    rcases Nat.lt_or_ge j acc.size with aW|hge
    ·have CF:(acc.getD j 0).testBit k=true:=by
      simp only[Array.getD_eq_getD_getElem?,Array.getElem?_push_lt aW] at hk ⊢;simpa [aW] using hk
     obtain⟨e,he,hb,hor⟩:=h j oj aW hoj k CF
     exact⟨e,he,hb,hor.imp id (pI _)⟩
    ·have hje:j=acc.size:=by simp only[Array.size_push] at hj;omega
     subst hje;have ho:=hl 0 o (by simp)
     rw[Nat.add_zero,hoj] at ho;cases ho
     have CF:(XW acc o).testBit k=true:=by simpa using hk
     rcases KE acc k _ 0 CF with h0|⟨e,he,hb,hor⟩
     ·simp at h0
     ·exact⟨e,by simpa using he,hb,hor.imp id (pI _)⟩
theorem Sm {ops:Array Oper} {dy:List (Nat × Nat)} {b:Array Nat} {j:Nat} {oj:Oper}:∀(l:List Oper) (i0:Nat),Qn ops dy b j oj l i0=true->∀i oi,l[i]? = some oi->i0+i<j->(b.getD j 0).testBit (i0+i)=true\/(E4 oi=true/\E4 oj=true/\(tF ops oi oj=true\/((i0+i,j)∈dy/\KP ops b (i0+i) oi j oj=true)))
 | [],_,_,i,oi,h,_=>by simp at h
 | o :: l,i0,h,i,oi,ho,aW=>by
   unfold Qn at h;simp only[Bool.and_eq_true,Bool.or_eq_true,decide_eq_true_eq] at h;cases i with
   | zero =>
     simp at ho
     subst ho;rcases h.1 with (h|h)|⟨⟨n1,n2⟩,h⟩
     ·omega
     ·exact .inl (by simpa using h)
     ·exact .inr ⟨n1,n2,h.imp id fun h=>⟨by simpa using h.1,by simpa using h.2⟩⟩
   | succ i =>
     have:=Sm l (i0+1) h.2 i oi (by simpa using ho) (by omega)
     rw[show i0+(i+1)=i0+1+i by omega]
     exact this
theorem Ki {ops:Array Oper} {dy:List (Nat × Nat)} {b:Array Nat}:∀(l:List Oper) (j0:Nat),KQ ops dy b l j0=true->∀j oj,l[j]? = some oj ->
 (∀e∈oj.after,Region.binds .any e=true->e.on<j0+j)/\Qn ops dy b (j0+j) oj ops.toList 0=true
 | [],_,_,j,oj,h=>by simp at h
 | o :: l,j0,h,j,oj,ho=>by
   unfold KQ at h;simp only[Bool.and_eq_true] at h;obtain⟨⟨h1,h2⟩,h3⟩:=h
   cases j with
   | zero =>
     simp at ho
     subst ho;refine⟨fun e he hb=>?_,by simpa using h2⟩
     have:=all_eq_true.1 h1 e (by simpa using he)
     simpa [hb] using this
   | succ j =>
     have:=Ki l (j0+1) h3 j oj (by simpa using ho)
     rw[show j0+(j+1)=j0+1+j by omega]
     exact this
structure Fm (ops:Array Oper) (dy:List (Nat × Nat)) (b:Array Nat):Prop where
 aER:CX ops b
 size:b.size=ops.size
 lt:∀j oj,ops[j]? = some oj->∀e∈oj.after,Region.binds .any e=true->e.on<j
 apart:∀i j oi oj,i<j->ops[i]? = some oi->ops[j]? = some oj->(b.getD j 0).testBit i=true\/(E4 oi=true/\E4 oj=true/\(tF ops oi oj=true\/((i,j)∈dy/\KP ops b i oi j oj=true)))
theorem CZ:∀(l:List Oper) (acc:Array Nat),(HT l acc).size=acc.size+l.length
 | [],acc=>rfl
 | o :: l,acc=>by
   unfold HT;rw[KF,CZ l];simp
   omega
theorem TZ {ops:Array Oper} {dy:List (Nat × Nat)} (h:Zt ops dy=true):∃b,Fm ops dy b:=by
 unfold Zt at h;refine⟨_,CY ops ops.toList #[] (fun i o ho=>by simpa using ho) (fun j o hj=>by simp at hj),by rw[CZ];simp,fun j oj hoj=>?_,fun i j oi oj hij hoi hoj=>?_⟩
 ·have:=(Ki _ 0 h j oj (by simpa using hoj)).1
  simpa using this
 ·have:=(Ki _ 0 h j oj (by simpa using hoj)).2
  simp only[Nat.zero_add] at this;have:=Sm _ 0 this i oi (by simpa using hoi) (by omega)
  simpa using this
section
variable {P:Program} {call:Nat->List AV->Option AV} {ops:Array Oper} {nt:Nat} {Q:Exit->Act->World->Prop}
theorem UA {h0:Nat->Obj->Prop} {w0:World} {F:Gs} {ρ:Nat->Nat->Value} {st:St} {a:Act} {w:World} (S:kS F h0 w0 nt ρ st a w) {o:Oper} {b:Bool} (h:gv ops st o.guard=some b):Region.wanted o (yielded ops a.tmps)=b:=by
 unfold gv at h;unfold Region.wanted;cases hg:o.guard with
 | none=>simp[hg] at h;subst h;rfl
 | some jw =>
   obtain⟨j,want⟩:=jw
   simp only[hg] at h;simp only
   cases hd:(ops[j]?).bind (·.dst) with
   | none =>
     simp[hd] at h
     subst h;simp[yielded,hd]
   | some d =>
     simp only[hd] at h;split at h
     ·rename_i x hx;have hr:=S.env d
      rw[hx] at hr;have hv:=iL hr
      rcases Nat.lt_or_ge d a.tmps.size with aW|hge
      ·have hv':a.tmps[d]? = some x:=by
        simp[aW] at hv ⊢
        exact hv
       simp only[yielded,hd,Option.bind_some,hv'];split at h
       ·simp only[aAk] at h;rw[<- h];simp
       ·simp only[aAk] at h;subst h;rename_i gJ;cases x<;>first|rfl|exact absurd rfl (gJ _)
      ·have hn:a.tmps[d]? = none:=Array.getElem?_eq_none hge
       have hu:x=undef:=by simpa [hn] using hv.symm
       subst hu;simp[undef] at h
       subst h;simp[yielded,hd,hn]
     ·cases h
theorem v8 {h0:Nat->Obj->Prop} {w0:World} {F:Gs} {ρ:Nat->Nat->Value} {st st':St} {a:Act} {w:World} {K:Act->World->Prop} (S:kS F h0 w0 nt ρ st a w) (jC:pE P call) {i:Nat} {o:Oper}
 (hi:ops[i]? = some o) (hd:∀d,o.dst=some d->d<nt) (h:cI P call ops o st=some st')
 (hK:∀oK a' w',kS F h0 w0 nt oK st' a' w'->K a' w'):wpOp P ops Q i K a w:=by
 unfold wpOp;simp only[hi];unfold cI at h;cases hg:gv ops st o.guard with
 | none=>simp[hg] at h
 | some b =>
   rw[UA S hg];simp only[hg] at h;cases b with
   | true =>
     simp only[if_true] at h ⊢;cases he:dU P call o st with
     | none=>simp[he] at h
     | some e =>
       simp only[he,aAo,aAk] at h;subst h;exact .inl (Xj S jC he hd hK)
   | false =>
     simp only[Bool.false_eq_true,if_false,aAk] at h ⊢;subst h;exact hK ρ _ w (S.put o.dst hd (.v _))
theorem MY {o:Oper} {a:Act} {w:World} {K:Act->World->Prop} (h:o.wp P a w K fun _ _ _=>False):∃a' w',K a' w':=by
 unfold Oper.wp at h;generalize (execOp a.eval o).run P w=r at h
 have hlet:¬LetsOut (fun _ _ _=>False):=by rintro⟨_,_,h⟩;exact h
 cases r with
 | ok n w' =>
   cases n<;>simp only[Oper.upon] at h<;>(try exact⟨_,_,h⟩)<;>(try exact h.elim)
   ·obtain⟨e,w2,fr,hR,_⟩:=h []
    cases e with
    | returned v=>exact⟨_,_,hR⟩
    | panicked c=>exact hR.elim
    | outgrown=>exact absurd hR hlet
   ·obtain⟨v,w2,hR,_⟩:=h default []
    exact⟨_,_,hR⟩
 | halt x w'=>cases x<;>simp only[Oper.upon] at h
def Valid (nt:Nat) (st:St):Prop:=∃(F:Gs) (h0:Nat->Obj->Prop) (w0:World) (ρ:Nat->Nat->Value) (a:Act) (w:World),kS F h0 w0 nt ρ st a w
theorem Valid.ids {st:St} (h:Valid nt st):∀t,mI st.aQ (st.env t):=by
 obtain⟨F,h0,w0,ρ,a,w,S⟩:=h
 exact fun t=>⟨ctx h0 w0 ρ st w,_,rfl,S.env t⟩
theorem Valid.hp {st:St} (h:Valid nt st):CT st:=by
 obtain⟨F,h0,w0,ρ,a,w,S⟩:=h
 intro s g cs he c hc;obtain⟨_,_,b,arr,T,_,_,_,zO⟩:=S.sS s g _ he
 obtain⟨i,hi,rfl⟩:=getElem_of_mem hc
 have hl:=zO.len
 exact⟨ctx h0 w0 ρ st w,arr.toList[i]'(by omega),rfl,zO.rel i _ _ (by simp[hi]) (by simp)⟩
theorem Valid.step {st st':St} (h:Valid nt st) (jC:pE P call) {o:Oper} (hd:∀d,o.dst=some d->d<nt) (he:cI P call ops o st=some st'):Valid nt st':=by
 obtain⟨F,h0,w0,ρ,a,w,S⟩:=h
 unfold cI at he;cases hg:gv ops st o.guard with
 | none=>simp[hg] at he
 | some b =>
   simp only[hg] at he;cases b with
   | true =>
     simp only[if_true] at he;cases hee:dU P call o st with
     | none=>simp[hee] at he
     | some e =>
       simp only[hee,aAo,aAk] at he;subst he;obtain⟨a',w',oK,S'⟩:=MY (Xj (Q:=fun _ _ _=>False) (K:=fun a' w'=>∃oK,kS F h0 w0 nt oK (e.apply st) a' w') S jC hee hd (fun oK a' w' h=>⟨oK,h⟩))
       exact⟨F,h0,w0,oK,a',w',S'⟩
   | false =>
     simp only[Bool.false_eq_true,if_false,aAk] at he;subst he;exact⟨F,h0,w0,ρ,_,w,S.put o.dst hd (.v _)⟩
theorem wU {b:Array Nat} {i a:Nat} {aS:List Nat} (ha:a∈aS):∀(l:List Oper) (m0:Nat),xS b i aS l m0=true->∀m o,l[m]? = some o->o.dst=some a->(b.getD i 0).testBit (m0+m)=true
 | [],_,_,m,o,h,_=>by simp at h
 | o' :: l,m0,h,m,o,ho,hd=>by
   unfold xS at h;simp only[Bool.and_eq_true,Bool.or_eq_true] at h;cases m with
   | zero =>
     simp at ho
     subst ho;rcases h.1 with h|h
     ·rw[hd] at h;simp[ha] at h
     ·simpa using h
   | succ m =>
     have:=wU ha l (m0+1) h.2 m o (by simpa using ho) hd
     rw[show m0+(m+1)=m0+1+m by omega]
     exact this
theorem qU.mem {s:St}:∀ {l:List (Nat × Nat)},qU ops s l->∀p∈l,Zs ops s p
 | p :: l,h,q,hq=>by
   rcases mem_cons.1 hq with rfl|hq
   ·exact h.1
   ·exact h.2.mem q hq
structure Left (ops:Array Oper) (mC:Array Bool) (l:List Nat):Prop where
 size:mC.size=ops.size
 mem:∀j,j∈l↔j<ops.size/\mC.getD j true=false
 sorted:l.Pairwise (· < ·)
 closed:∀j o,ops[j]? = some o->mC.getD j false=true->∀e∈o.after,Region.binds .any e=true->mC.getD e.on false=true
theorem Fm.aIV {dy:List (Nat × Nat)} {b:Array Nat} (D:Fm ops dy b):∀(j:Nat) o,ops[j]? = some o->∀k,(b.getD j 0).testBit k=true->k<j:=by
 intro j;induction j using Nat.strongRecOn with
 | _ j ih =>
   intro o ho k hk;have hj:j<ops.size:=(Array.getElem?_eq_some_iff.1 ho).1
   obtain⟨e,he,hb,hor⟩:=D.aER j o (by rw[D.size];exact hj) ho k hk
   have aW:=D.lt j o ho e he hb
   rcases hor with rfl|CF
   ·exact aW
   ·have hes:e.on<ops.size:=by omega
    have:=ih e.on aW _ (Array.getElem?_eq_getElem hes) k CF
    omega
theorem KG {mC:Array Bool} {j:Nat} (hj:j<mC.size):mC.getD j true=mC.getD j false:=by simp[hj]
theorem UB {dy:List (Nat × Nat)} {b:Array Nat} (D:Fm ops dy b) {mC:Array Bool} {l:List Nat} (L:Left ops mC l):∀(j:Nat) o,ops[j]? = some o->(∀e∈o.after,Region.binds .any e=true->mC.getD e.on false=true) ->
 ∀k,(b.getD j 0).testBit k=true->mC.getD k false=true:=by
 intro j;induction j using Nat.strongRecOn with
 | _ j ih =>
   intro o ho Pl k hk;have hj:j<ops.size:=(Array.getElem?_eq_some_iff.1 ho).1
   obtain⟨e,he,hb,hor⟩:=D.aER j o (by rw[D.size];exact hj) ho k hk
   have hle:=Pl e he hb
   rcases hor with rfl|CF
   ·exact hle
   ·have aW:=D.lt j o ho e he hb
    have hes:e.on<ops.size:=by omega
    exact ih e.on aW _ (Array.getElem?_eq_getElem hes) (L.closed e.on _ (Array.getElem?_eq_getElem hes) hle) k CF
end
end Go.Ab
end
section
namespace Go.Ab
open Classical
variable [Ext]
section
variable {P:Program} {call:Nat->List AV->Option AV} {inl:Nat->List AV->St->Option (AV × St)} {bi:Bool} {nt:Nat} {h0:Nat->Obj->Prop} {w0:World} {F:Gs}
theorem GJ {ops:Array Oper} {id:Nat} {draw:Bool} (h:codeOk bi nt (.region id ops draw)=true):(∀(j:Nat) o,ops[j]? = some o->∀d,o.dst=some d->d<nt)/\(draw=true->Zt ops (if bi=true then Ext.dyn id ops.size (sW ops) else [])=true):=by
 simp only[codeOk,Bool.and_eq_true,Bool.or_eq_true,Bool.not_eq_true'] at h;refine⟨fun j o ho d hd=>?_,fun hdr=>h.2.resolve_left (by rw[hdr];simp)⟩
 have:=Array.all_eq_true_iff_forall_mem.1 h.1 o (Array.mem_of_getElem? ho)
 simpa [hd] using this
def Sn (P:Program) (inl:Nat->List AV->St->Option (AV × St)):Prop :=
 ∀g xs st r s',inl g xs st=some (r,s')->zA P g /\
  ∀(F:Gs) (h0:Nat->Obj->Prop) (w0:World) (nt:Nat) (ρ:Nat->Nat->Value) (a:Act) (w:World) (vs:Array Value) (K:Value->World->Prop),kS F h0 w0 nt ρ st a w->lK (ctx h0 w0 ρ st w) xs vs.toList ->
   (∀oK w' v,kS F h0 w0 nt oK (st.back s') a w'->cX (ctx h0 w0 oK (st.back s') w') r v->K v w')->Calls P g vs w fun en w'=>∃v,en=.returned v/\K v w'
theorem v9 {o:Oper} {g:Nat} {args:List Operand} (h:Hs o=some (g,args)):∃c,o.op=.call c/\c.callee=.value (.func g)/\c.args.toList=args:=by
 obtain⟨dst,op,type,pos,after,guard⟩:=o
 unfold Hs at h;split at h
 ·rename_i g' args' uF qV
  split at h
  ·simp only[aAk,Prod.mk.injEq] at h;obtain⟨rfl,rfl⟩:=h
   exact⟨_,qV,rfl,rfl⟩
  ·cases h
 ·cases h
theorem Xn {ops:Array Oper} {Q:Exit->Act->World->Prop} {ρ:Nat->Nat->Value} {st st':St} {a:Act} {w:World} {K:Act->World->Prop} (S:kS F h0 w0 nt ρ st a w) (jC:pE P call) (Mz:Sn P inl) {i:Nat} {o:Oper}
 (hi:ops[i]? = some o) (hd:∀d,o.dst=some d->d<nt) (h:gT P bi call inl ops o st=some st')
 (hK:∀oK a' w',kS F h0 w0 nt oK st' a' w'->K a' w'):wpOp P ops Q i K a w:=by
 unfold gT at h;split at h
 ·rename_i g args hg;have PI:Hs o=some (g,args):=by
   split at hg
   ·exact hg
   ·cases hg
  obtain⟨c,qV,hcal,vV⟩:=v9 PI
  unfold wpOp;simp only[hi];cases hgv:gv ops st o.guard with
  | none=>simp[hgv] at h
  | some b =>
    rw[UA S hgv];simp only[hgv] at h;cases b with
    | true =>
      simp only[if_true] at h ⊢;cases he:inl g (args.map st.ev) st with
      | none=>simp[he] at h
      | some r =>
        obtain⟨x,s'⟩:=r
        simp only[he,aAo,aAk] at h;subst h;refine .inl ?_
        obtain⟨⟨fn,aIR,aBX,aBY⟩,p6⟩:=Mz g _ st x s' he
        have hnb:fn.body.isNone=false:=by
         cases hb:fn.body<;>simp[hb] at aBY ⊢
        have Tz : ¬ fn.name = "runtime.NumGoroutine" := by simpa using aBX
        have hn2:¬fn.body=none:=by intro h;simp[h] at hnb
        have qT:(execOp a.eval o).run P w=.ok (.enter g (c.args.map a.eval)) w:=by
         simp[execOp,qV,resolve,hcal,Act.eval,Deferred.ofValue,invoke,callFunc,aIR,Tz,hn2]
        have fC:lK (ctx h0 w0 ρ st w) (args.map st.ev) (c.args.map a.eval).toList:=by
         rw[<- vV];simpa using lK.map c.args.toList _ _ fun p _=>S.ev p
        unfold Oper.wp;rw[qT,Oper.upon_enter];refine (p6 F h0 w0 nt ρ a w (c.args.map a.eval) (fun v w'=>K (a.put o.dst v) w') S fC fun oK w' v S' hv=>?_).mono ?_
        ·exact hK oK _ w' (S'.put o.dst hd hv)
        ·rintro en w' ⟨v,rfl,hk⟩
         exact hk
    | false =>
      simp only[Bool.false_eq_true,if_false,aAk] at h ⊢;subst h;exact hK ρ _ w (S.put o.dst hd (.v _))
 ·exact v8 S jC hi hd h hK
theorem DA {ops:Array Oper} (jC:pE P call) (Mz:Sn P inl) (lI:∀(j:Nat) o,ops[j]? = some o->∀d,o.dst=some d->d<nt) {Q:Exit->Act->World->Prop} {sf:St}
 (hQ:∀oK a' w',kS F h0 w0 nt oK sf a' w'->Q .normal a' w'):∀(l:List Oper) (k:Nat) (st:St) (ρ:Nat->Nat->Value) (a:Act) (w:World),(∀(j:Nat) o,l[j]? = some o->ops[k+j]? = some o)->kS F h0 w0 nt ρ st a w ->
  mL P bi call inl ops l st=some sf->wpOps P ops Q (List.range' k l.length) a w
 | [],k,st,ρ,a,w,hl,S,h=>by
   simp only[mL,aAk] at h;subst h;exact hQ ρ a w S
 | o :: l,k,st,ρ,a,w,hl,S,h=>by
   rw[length_cons,range'_succ,wpOps_cons];have hi:ops[k]? = some o:=hl 0 o rfl
   unfold mL at h;cases h1:gT P bi call inl ops o st with
   | none=>simp[h1,cT] at h
   | some s1 =>
     simp only[h1,cT] at h;exact Xn S jC Mz hi (lI k o hi) h1 fun oK a' w' S'=>DA jC Mz lI hQ l (k+1) s1 oK a' w' (fun j o' hj=>by
      have:=hl (j+1) o' (by simpa using hj)
      rw[show k+1+j=k+(j+1) by omega];exact this) S' h
def Po (P:Program) (bi:Bool) (call:Nat->List AV->Option AV) (inl:Nat->List AV->St->Option (AV × St)) (ops:Array Oper):List Nat->St->Option St
 | [],st=>some st
 | i :: r,st =>
   match ops[i]? with
   | some o=>cT (gT P bi call inl ops o st) (Po P bi call inl ops r)
   | none=>Po P bi call inl ops r st
theorem Xo {ops:Array Oper}:∀(l:List Oper) (k:Nat) (st:St),(∀j,l[j]? = ops[k+j]?\/l.length<=j)->mL P bi call inl ops l st=Po P bi call inl ops (List.range' k l.length) st
 | [],k,st,h=>rfl
 | o :: l,k,st,h=>by
   have h0:=(h 0).resolve_right (by simp)
   simp only[getElem?_cons_zero,Nat.add_zero] at h0;simp only[mL,length_cons,range'_succ,Po,<- h0];cases gT P bi call inl ops o st with
   | none=>rfl
   | some s =>
     simp only[cT];exact Xo l (k+1) s fun j=>by
      rcases h (j+1) with h|h
      ·left
       rw[show k+1+j=k+(j+1) by omega,<- h]
       simp
      ·right
       simpa using h
theorem DB {ops:Array Oper} {o:Oper} {st s:St} {a:Nat} (h:cI P call ops o st=some s) (hd:o.dst≠some a):s.env a=st.env a:=by
 rw[Hm] at h;cases he:sM P call ops o st with
 | none=>simp[he] at h
 | some e =>
   simp only[he,aAo,aAk] at h;subst h;rw[pF,(pQ he).1,if_neg hd]
theorem aB9 {o:Oper} (h:E4 o=true):Hs o=none:=by simpa [E4] using h
theorem UC {ops:Array Oper} {o:Oper} (h:E4 o=true) (st:St):gT P bi call inl ops o st=cI P call ops o st:=by
 unfold gT;rw[aB9 h];cases bi<;>rfl
theorem S5 {ops:Array Oper} {o:Oper} {st s:St} {a:Nat} (h:gT P bi call inl ops o st=some s) (hd:o.dst≠some a):s.env a=st.env a:=by
 unfold gT at h;have hput:∀(s0:St) (x:AV),(s0.put o.dst x).env a=s0.env a:=fun s0 x=>by
  cases hod:o.dst with
  | none=>rfl
  | some d =>
    simp only[St.put];rw[if_neg];rintro rfl
    exact hd hod
 split at h
 ·split at h
  ·split at h
   ·simp only[Option.map_eq_some_iff] at h;obtain⟨r,_,rfl⟩:=h
    exact hput _ _
   ·simp only[aAk] at h;subst h;exact hput _ _
  ·cases h
 ·exact DB h hd
theorem So {ops:Array Oper} {a:Nat}:∀(l:List Nat) {st sf:St},(∀m∈l,∀o,ops[m]? = some o->o.dst≠some a)->Po P bi call inl ops l st=some sf->sf.env a=st.env a
 | [],st,sf,_,h=>by
   simp only[Po,aAk] at h;subst h;rfl
 | i :: l,st,sf,hd,h=>by
   unfold Po at h;cases hi:ops[i]? with
   | none=>simp only[hi] at h;exact So l (fun m hm=>hd m (by simp[hm])) h
   | some o =>
     simp only[hi] at h;cases h1:gT P bi call inl ops o st with
     | none=>simp[h1,cT] at h
     | some s1 =>
       simp only[h1,cT] at h;rw[So l (fun m hm=>hd m (by simp[hm])) h,S5 h1 (hd i (by simp) o hi)]
def J7 (ops:Array Oper) (sf:St) (rest:List Nat) (k:Nat) (ok oi:Oper):Prop :=
 tF ops ok oi=true\/∃aS bs,gY ok=some aS/\gY oi=some bs/\Oper.apart ops ok oi=true/\Of sf aS bs /\
  (∀m∈rest,k<=m->∀o,ops[m]? = some o->∀a∈aS,o.dst≠some a)/\(∀m∈rest,∀o,ops[m]? = some o->∀b∈bs,o.dst≠some b)
theorem DC {ops:Array Oper} (jC:pE P call) (lI:∀(j:Nat) o,ops[j]? = some o->∀d,o.dst=some d->d<nt) {i:Nat} {oi:Oper} (hi:ops[i]? = some oi) (l2:List Nat):∀(l1:List Nat) (st sf:St),Valid nt st->(l1++i :: l2).Pairwise (· < ·) ->
 (∀k∈l1,∃ok,ops[k]? = some ok/\E4 ok=true/\E4 oi=true/\J7 ops sf (l1++i :: l2) k ok oi)->Po P bi call inl ops (l1++i :: l2) st=some sf->Po P bi call inl ops (i :: (l1++l2)) st=some sf
 | [],st,sf,_,_,_,h=>h
 | k :: l1,st,sf,hv,hs,oE,h=>by
   obtain⟨ok,pJ,Tz,hn2,hak⟩:=oE k (by simp)
   have e1:=fun st=>UC (P:=P) (bi:=bi) (call:=call) (inl:=inl) (ops:=ops) Tz st
   have e2:=fun st=>UC (P:=P) (bi:=bi) (call:=call) (inl:=inl) (ops:=ops) hn2 st
   simp only[cons_append,Po,pJ,e1] at h;cases h1:cI P call ops ok st with
   | none=>simp[h1,cT] at h
   | some s1 =>
     simp only[h1,cT] at h;rw[cons_append,pairwise_cons] at hs;have ih:=DC jC lI hi l2 l1 s1 sf (hv.step jC (lI k ok pJ) h1) hs.2 (fun k' hk=>by
      obtain⟨ok',h1,m1,m2,h2⟩:=oE k' (by simp[hk])
      refine⟨ok',h1,m1,m2,h2.imp id ?_⟩
      rintro⟨a,a',e1,e2,e3,e4,e5,e6⟩
      exact⟨a,a',e1,e2,e3,e4,fun m hm=>e5 m (by simp only[cons_append];exact mem_cons_of_mem _ hm),fun m hm=>e6 m (by simp only[cons_append];exact mem_cons_of_mem _ hm)⟩) h
     have ih0:=ih
     simp only[Po,hi,e2] at ih;cases h2:cI P call ops oi s1 with
     | none=>simp[h2,cT] at ih
     | some s2 =>
       simp only[h2,cT] at ih;have hcomm:∃s3,cI P call ops oi st=some s3/\cI P call ops ok s3=some s2:=by
        rcases hak with hak|⟨aS,bs,e1',e2',e3,e4,e5,e6⟩
        ·exact aE2 hv.hp hak hv.ids h1 h2
        ·have w1:∀m∈i :: (l1++l2),m∈(k :: l1)++i :: l2/\k<=m:=fun m hm=>by
          have XZ:m∈l1++i :: l2:=by
           simp only[mem_cons,mem_append] at hm ⊢;rcases hm with h|h|h
           ·exact .inr (.inl h)
           ·exact .inl h
           ·exact .inr (.inr h)
          exact⟨by simp only[cons_append];exact mem_cons_of_mem _ XZ,Nat.le_of_lt (hs.1 m XZ)⟩
         have f1:∀a∈aS,sf.env a=st.env a:=fun a ha=>by
          rw[So _ (fun m hm o ho=>e5 m (w1 m hm).1 (w1 m hm).2 o ho a ha) ih0,DB h1 (e5 k (by simp) (Nat.le_refl _) ok pJ a ha)]
         have f2:∀b∈bs,sf.env b=st.env b:=fun b hb=>by
          rw[So _ (fun m hm o ho=>e6 m (w1 m hm).1 o ho b hb) ih0,DB h1 (e6 k (by simp) ok pJ b hb)]
         have e4':Of st aS bs:=fun a ha b hb=>by
          have:=e4 a ha b hb
          rw[f1 a ha,f2 b hb] at this;exact this
         exact aB7 hv.ids e1' e2' e3 e4' h1 h2
       obtain⟨s3,h3,h4⟩:=hcomm
       simp only[cons_append,Po,hi,pJ,e1,e2,h3,h4,cT];exact ih
theorem DD {ops:Array Oper} {Q:Exit->Act->World->Prop} (jC:pE P call) (Mz:Sn P inl) (lI:∀(j:Nat) o,ops[j]? = some o->∀d,o.dst=some d->d<nt) {dy:List (Nat × Nat)} {b:Array Nat} (D:Fm ops dy b) {sf:St} (hsw:qU ops sf dy)
 (hQ:∀oK a' w',kS F h0 w0 nt oK sf a' w'->Q .normal a' w'):∀(f:Nat) (l:List Nat) (mC:Array Bool) (st:St) (ρ:Nat->Nat->Value) (a:Act) (w:World),l.length=f->Left ops mC l->kS F h0 w0 nt ρ st a w ->
 Po P bi call inl ops l st=some sf->wpAny P .any ops Q f mC a w
 | 0,l,mC,st,ρ,a,w,hf,L,S,he=>by
   have hl:=length_eq_zero_iff.1 hf
   subst hl;simp only[Po,aAk] at he;subst he;refine⟨?_,hQ ρ a w S⟩
   cases hr:Region.ready .any ops mC with
   | nil=>rfl
   | cons x xs =>
     have hx:x∈Region.ready .any ops mC:=by rw[hr];simp
     obtain⟨h1,o,ho,_⟩:=mem_ready.1 hx
     have:=(L.mem x).2 ⟨(Array.getElem?_eq_some_iff.1 ho).1,h1⟩
     simp at this
 | f+1,l,mC,st,ρ,a,w,hf,L,S,he=>by
   refine⟨fun hr=>?_,fun i hi=>?_⟩
   ·exfalso
    cases l with
    | nil=>simp at hf
    | cons i l =>
      have hil:=(L.mem i).1 (by simp)
      have:i∈Region.ready .any ops mC:=mem_ready.2 ⟨hil.2,ops[i],Array.getElem?_eq_getElem hil.1,fun e zX hb=>by
       have aW:=D.lt i _ (Array.getElem?_eq_getElem hil.1) e zX hb
       cases hle:mC.getD e.on false with
       | true=>rfl
       | false =>
         have hsz:e.on<mC.size:=by rw[L.size];omega
         have hin:=(L.mem e.on).2 ⟨by omega,by rw[KG hsz];exact hle⟩
         rcases mem_cons.1 hin with h|h
         ·omega
         ·have:=(pairwise_cons.1 L.sorted).1 _ h
          omega⟩
      rw[hr] at this;simp at this
   ·obtain⟨h1,oi,hoi,Pl⟩:=mem_ready.1 hi
    have hilt:i<ops.size:=(Array.getElem?_eq_some_iff.1 hoi).1
    have hil:=(L.mem i).2 ⟨hilt,h1⟩
    obtain⟨l1,l2,rfl⟩:=append_of_mem hil
    have hs:=L.sorted
    rw[pairwise_append] at hs;obtain⟨s1,s2,s3⟩:=hs
    have hno:∀m,(b.getD i 0).testBit m=true->m ∉ l1++i :: l2:=fun m h hm=>by
     have Q4:=(L.mem m).1 hm
     have:=UB D L i oi hoi Pl m h
     rw[<- KG (by rw[L.size];exact Q4.1),Q4.2] at this
     cases this
    have oE:∀k∈l1,∃ok,ops[k]? = some ok/\E4 ok=true/\E4 oi=true/\J7 ops sf (l1++i :: l2) k ok oi:=fun k hk=>by
     have PH:=s3 k hk i (by simp)
     have Q4:=(L.mem k).1 (by simp[hk])
     refine⟨ops[k],Array.getElem?_eq_getElem Q4.1, ?_⟩
     rcases D.apart k i _ oi PH (Array.getElem?_eq_getElem Q4.1) hoi with h|⟨n1,n2,h|⟨hm,h⟩⟩
     ·exact absurd (by simp[hk]) (hno k h)
     ·exact⟨n1,n2,.inl h⟩
     ·refine⟨n1,n2,.inr ?_⟩
      have hsa:=hsw.mem _ hm
      unfold Zs at hsa;simp only[Array.getElem?_eq_getElem Q4.1,hoi,Option.bind_some] at hsa;unfold KP at h;cases ha:gY ops[k] with
      | none=>rw[ha] at h;cases h
      | some aS =>
        cases ha':gY oi with
        | none=>rw[ha,ha'] at h;cases h
        | some bs =>
          rw[ha,ha'] at hsa h;simp only[Bool.and_eq_true] at h hsa;refine⟨aS,bs,rfl,rfl,h.1.1,hsa,fun m hm hkm' o ho a haa hd=>?_,fun m hm o ho b xG hd=>?_⟩
          ·have hb:=wU haa _ 0 h.1.2 m o (by simpa using ho) hd
           rw[Nat.zero_add] at hb;have aW:=D.aIV k _ (Array.getElem?_eq_getElem Q4.1) m hb
           omega
          ·have hb:=wU xG _ 0 h.2 m o (by simpa using ho) hd
           rw[Nat.zero_add] at hb;exact hno m hb hm
    have zX:=DC jC lI hoi l2 l1 st sf ⟨F,h0,w0,ρ,a,w,S⟩ L.sorted oE he
    simp only[Po,hoi] at zX
    cases h2:gT P bi call inl ops oi st with
    | none=>simp[h2,cT] at zX
    | some s2' =>
      simp only[h2,cT] at zX
      refine Xn S jC Mz hoi (lI i oi hoi) h2 fun oK a' w' S'=>?_
      refine DD jC Mz lI D hsw hQ f (l1++l2) _ s2' oK a' w' (by simp at hf ⊢;omega) ⟨by simp[L.size],fun j=>?_, ?_,fun j o ho hlj e he'' hb=>?_⟩ S' zX
      ·have hm:=L.mem j
       simp only[mem_append,mem_cons] at hm ⊢;by_cases hji:j=i
       ·subst hji;have Tz:j ∉ l1:=fun h=>by have:=s3 j h j (by simp);omega
        have hn2:j ∉ l2:=fun h=>by have:=(pairwise_cons.1 s2).1 j h;omega
        have aBA:(mC.setIfInBounds j true).getD j true=true:=by
         have:j<mC.size:=by rw[L.size];exact hilt
         simp[this]
        simp[Tz,hn2,aBA]
       ·rw[getD_set_ne true (Ne.symm hji)];simpa [hji] using hm
      ·rw[pairwise_append];exact⟨s1,(pairwise_cons.1 s2).2,fun x hx y hy=>s3 x hx y (by simp[hy])⟩
      ·by_cases hji:i=j
       ·subst hji;rw[hoi] at ho;cases ho
        exact getD_set_true (Pl e he'' hb)
       ·rw[getD_set_ne false hji] at hlj;exact getD_set_true (L.closed j o ho hlj e he'' hb)
theorem MZ (hm:P.follows .mixedOrders=true) (jC:pE P call) (Mz:Sn P inl) {ops:Array Oper} {id:Nat} {draw:Bool} (pJ:codeOk bi nt (.region id ops draw)=true) {Q:Exit->Act->World->Prop} {st sf:St} {ρ:Nat->Nat->Value} {a:Act} {w:World}
 (S:kS F h0 w0 nt ρ st a w) (hsw:bi=true->qU ops sf (Ext.dyn id ops.size (sW ops))) (h:mL P bi call inl ops ops.toList st=some sf) (hQ:∀oK a' w',kS F h0 w0 nt oK sf a' w'->Q .normal a' w'):(Code.region id ops draw).wp P Q a w:=by
 obtain⟨lI,hdraw⟩:=GJ pJ
 cases draw with
 | false =>
   refine wp_region ?_
   rw[range_eq_range'];have:=DA jC Mz lI hQ ops.toList 0 st ρ a w (fun j o hj=>by simpa using hj) S h
   simpa using this
 | true =>
   rw[Xo ops.toList 0 st (fun j=>.inl (by simp))] at h
   obtain⟨b,D⟩:=TZ (hdraw rfl)
   refine wp_region_any hm ?_
   have hg:w.grownBy { w with drawn:=w.drawn+1 } none:=⟨rfl,rfl,rfl,Nat.le_refl _,fun _ _ _=>rfl⟩
   have hsw':qU ops sf (if bi=true then Ext.dyn id ops.size (sW ops) else []):=by
    cases bi with
    | true=>exact hsw rfl
    | false=>exact trivial
   refine DD jC Mz lI D hsw' hQ ops.size (List.range' 0 ops.size) _ st ρ a _ (by simp) ⟨by simp,fun j=>?_, ?_,fun j o ho hl=>?_⟩ (S.grow hg).1 (by simpa using h)
   ·rw[<- range_eq_range',mem_range];constructor
    ·intro hj;exact⟨hj,by simp[hj]⟩
    ·exact fun h=>h.1
   ·rw[<- range_eq_range'];exact pairwise_lt_range
   ·simp[Array.getD_eq_getD_getElem?,Array.getElem?_replicate] at hl
    split at hl<;>simp at hl
theorem Ha {p:Nat->Prop} (h:∃n,p n):∃n,p n/\∀m,p m->n<=m:=by
 obtain⟨n,hn⟩:=h
 induction n using Nat.strongRecOn with
 | _ n ih =>
   by_cases hl:∃m,m<n/\p m
   ·obtain⟨m,hm,hp⟩:=hl
    exact ih m hm hp
   ·exact⟨n,hn,fun m hm=>by
     rcases Nat.lt_or_ge m n with h|h
     ·exact absurd ⟨m,h,hm⟩ hl
     ·exact h⟩
def DE (p:Nat->Prop):Nat:=if h:∃n,p n then Classical.choose (Ha h) else 0
theorem Xp {p:Nat->Prop} (h:∃n,p n):p (DE p)/\∀m,p m->DE p<=m:=by
 unfold DE;rw[dif_pos h];exact Classical.choose_spec (Ha h)
def Ex.to:Ex->Exit
 | .normal=>.normal
 | .exit id=>.exit id
 | .ret=>.ret
theorem pG (hm:P.follows .mixedOrders=true) (jC:pE P call) (Mz:Sn P inl) (n:Nat):∀(c:Code) (st sf:St) (ex:Ex) (ρ:Nat->Nat->Value) (a:Act) (w:World) (Q:Exit->Act->World->Prop),codeOk bi nt c=true ->
 kS F h0 w0 nt ρ st a w->uN P bi call inl n c st=some (ex,sf)->(∀oK a' w',kS F h0 w0 nt oK sf a' w'->Q ex.to a' w')->c.wp P Q a w:=by
 induction n using Nat.strongRecOn with
 | _ n ih =>
 have pG:∀m,m<n->∀(c:Code) (st sf:St) (ex:Ex) (ρ:Nat->Nat->Value) (a:Act) (w:World) (Q:Exit->Act->World->Prop),codeOk bi nt c=true ->
  kS F h0 w0 nt ρ st a w->uN P bi call inl m c st=some (ex,sf)->(∀oK a' w',kS F h0 w0 nt oK sf a' w'->Q ex.to a' w')->c.wp P Q a w:=ih
 clear ih
 intro c st sf ex ρ a w Q pJ S h hQ;cases n with
 | zero=>simp[uN] at h
 | succ n =>
   cases c<;>simp only[uN] at h
   case skip =>
    simp only[aAk,Prod.mk.injEq] at h;obtain⟨rfl,rfl⟩:=h
    exact wp_skip (hQ ρ a w S)
   case region id ops draw =>
    cases h1:mL P bi call inl ops ops.toList st with
    | none=>simp[h1,cT] at h
    | some s1 =>
      simp only[h1,cT] at h;split at h
      ·cases h
      ·rename_i hsw;simp only[aAk,Prod.mk.injEq] at h;obtain⟨rfl,rfl⟩:=h
       exact MZ hm jC Mz pJ S (fun hb=>Classical.byContradiction fun hc=>hsw ⟨hb,hc⟩) h1 hQ
   case seq x y =>
    simp only[codeOk,Bool.and_eq_true] at pJ;cases h1:uN P bi call inl n x st with
    | none=>simp[h1,cT] at h
    | some r =>
      obtain⟨e1,s1⟩:=r
      simp only[h1,cT] at h;refine wp_seq (pG n (by omega) x st s1 e1 ρ a w _ pJ.1 S h1 fun oK a' w' S'=>?_)
      cases e1 with
      | normal=>exact pG n (by omega) y s1 sf ex oK a' w' Q pJ.2 S' h hQ
      | exit id =>
        simp only[aAk,Prod.mk.injEq] at h;obtain⟨rfl,rfl⟩:=h
        exact hQ oK a' w' S'
      | ret =>
        simp only[aAk,Prod.mk.injEq] at h;obtain⟨rfl,rfl⟩:=h
        exact hQ oK a' w' S'
   case cond c x y =>
    simp only[codeOk,Bool.and_eq_true] at pJ;split at h
    ·rename_i t ht;have hr:=S.ev c
     rw[ht] at hr;have hv:=iL hr
     refine wp_cond (t:=t) hv ?_
     cases t with
     | true=>exact pG n (by omega) x st sf ex ρ a w Q pJ.1 S (by simpa using h) hQ
     | false=>exact pG n (by omega) y st sf ex ρ a w Q pJ.2 S (by simpa using h) hQ
    ·cases h
   case block id b =>
    simp only[codeOk] at pJ;cases h1:uN P bi call inl n b st with
    | none=>simp[h1,cT] at h
    | some r =>
      obtain⟨e1,s1⟩:=r
      simp only[h1,cT,aAk,Prod.mk.injEq] at h;obtain⟨rfl,rfl⟩:=h
      refine wp_block (pG n (by omega) b st s1 e1 ρ a w _ pJ S h1 fun oK a' w' S'=>?_)
      have:=hQ oK a' w' S'
      cases e1 with
      | normal=>exact this
      | exit i =>
        simp only[Ex.inBlock] at this;simp only[Ex.to,Exit.inBlock];by_cases hi:i=id
        ·rw[if_pos hi] at this ⊢;exact this
        ·rw[if_neg hi] at this ⊢;exact this
      | ret=>exact this
   case loop b =>
    have hok':=pJ
    simp only[codeOk] at pJ;let p:Act->World->Nat->Prop:=fun a w m=>m<=n+1/\∃st ρ,kS F h0 w0 nt ρ st a w/\uN P bi call inl m (.loop b) st=some (ex,sf)
    refine wp_loop (fun a w=>∃m,p a w m) (fun a w=>DE (p a w)) ⟨n+1,Nat.le_refl _,st,ρ,S,h⟩ fun a w hI=>?_
    obtain⟨⟨hle,JG,ρ1,S1,h1⟩,_⟩:=Xp hI
    generalize DE (p a w)=m at h1 hle
    cases m with
    | zero=>simp[uN] at h1
    | succ m =>
      simp only[uN] at h1;cases h2:uN P bi call inl m b JG with
      | none=>simp[h2,cT] at h1
      | some r =>
        obtain⟨e1,s1⟩:=r
        simp only[h2,cT] at h1;have hmn:m<=n:=by omega
        refine pG m (by omega) b JG s1 e1 ρ1 a w _ pJ S1 h2 fun oK a' w' S'=>?_
        cases e1 with
        | normal =>
          have hp:p a' w' m:=⟨by omega,s1,oK,S',h1⟩
          exact⟨⟨m,hp⟩,Nat.lt_succ_of_le ((Xp ⟨m,hp⟩).2 m hp)⟩
        | exit id =>
          simp only[aAk,Prod.mk.injEq] at h1;obtain⟨rfl,rfl⟩:=h1
          exact hQ oK a' w' S'
        | ret =>
          simp only[aAk,Prod.mk.injEq] at h1;obtain⟨rfl,rfl⟩:=h1
          exact hQ oK a' w' S'
   case exit id =>
    simp only[aAk,Prod.mk.injEq] at h;obtain⟨rfl,rfl⟩:=h
    exact wp_exit (hQ ρ a w S)
   case ret =>
    simp only[aAk,Prod.mk.injEq] at h;obtain⟨rfl,rfl⟩:=h
    exact wp_ret (hQ ρ a w S)
   all_goals cases h
end
end Go.Ab
end
section
namespace Go.Ab
open Classical
variable [Ext]
section
variable {P:Program}
theorem UD {h0:Nat->Obj->Prop} {w w':World}:(bare (Fj h0 w w')).Le (bare (newHs h0 w w' [])) :=
 ⟨fun b o h=>⟨h.1,h.2,by simp⟩,fun _=>Nat.le_refl _,fun _ _ h=>absurd h (by simp[bare])⟩
def Bm (tmps:Array Value):ResultVar->Sem Value
 | .tmp t=>pure (tmps.getD t undef)
 | .cell p t=>do loadVar t (<- asAddr (tmps.getD p undef))
theorem NA {h0:Nat->Obj->Prop} {w0:World} {F:Gs} {nt:Nat} {ρ:Nat->Nat->Value} {st:St} {a:Act} {w:World} (S:kS F h0 w0 nt ρ st a w) {rv:ResultVar} {x:AV} (h:lQ P st rv=some x) :
 ∃y,(Bm a.tmps rv).run P w=.ok y w/\cX (ctx h0 w0 ρ st w) x y:=by
 cases rv with
 | tmp t =>
   simp only[lQ,aAk] at h;subst h;exact⟨_,rfl,S.env t⟩
 | cell p T =>
   simp only[lQ] at h;cases hra:rG st (st.env p) with
   | none=>simp[hra,cT] at h
   | some cs =>
     simp only[hra,cT] at h;obtain⟨b,off,arr,B,fr,hu,_,_⟩:=Qs S hra (S.env p)
     obtain⟨r,hr,fC⟩:=AA S hra h (S.env p)
     rw[hu] at hr;refine⟨r, ?_,fC⟩
     simp only[Instr.loadAt,Instr.sureAddr] at hr;simp only[Bm,hu,asAddr];exact hr
theorem mD {h0:Nat->Obj->Prop} {w0:World} {F:Gs} {nt:Nat} {ρ:Nat->Nat->Value} {st:St} {a:Act} {w:World} (S:kS F h0 w0 nt ρ st a w):∀(rs:List ResultVar) (xs:List AV),rs.map (lQ P st)=xs.map some ->
 ∃ys,(rs.mapM (Bm a.tmps)).run P w=.ok ys w/\lK (ctx h0 w0 ρ st w) xs ys
 | [],xs,h=>by
   cases xs with
   | nil=>exact⟨[],rfl,.nil _⟩
   | cons x xs=>simp at h
 | r :: rs,xs,h=>by
   cases xs with
   | nil=>simp at h
   | cons x xs =>
     simp only[map_cons,List.cons.injEq] at h;obtain⟨y,hy,fC⟩:=NA S h.1
     obtain⟨ys,Yg,hrels⟩:=mD S rs xs h.2
     refine⟨y :: ys, ?_,.cons fC hrels⟩
     rw[mapM_cons,dQ hy,dQ Yg];rfl
theorem NB {h0:Nat->Obj->Prop} {w0:World} {F:Gs} {nt:Nat} {ρ:Nat->Nat->Value} {st:St} {a:Act} {w:World} (S:kS F h0 w0 nt ρ st a w) {fn:Func} {r:AV} (h:xF P fn st=some r) :
 ∃v,(results fn a.tmps).run P w=.ok v w/\CL h0 w0 w r v:=by
 have UE:∀(ys:List Value),(fn.results.toList.mapM (Bm a.tmps)).run P w=.ok ys w ->
  (results fn a.tmps).run P w=.ok (if h:ys.toArray.size=1 then ys.toArray[0] else .tuple ys.toArray) w:=by
  intro ys Yg;have e:results fn a.tmps=(do let vs <- fn.results.mapM (Bm a.tmps);pure (if h:vs.size=1 then vs[0] else .tuple vs)):=by
   unfold results;congr 1
  rw[e,Array.mapM_eq_mapM_toList];simp only[Sem.run_bind,Sem.run_map,Yg,Result.andThen_ok,Sem.run_pure]
 unfold xF at h;split at h
 ·rename_i r1 Z1;cases h1:lQ P st r1 with
  | none=>simp[h1,cT] at h
  | some x =>
    simp only[h1,cT] at h;obtain⟨ys,Yg,fC⟩:=mD (P:=P) S [r1] [x] (by simp[h1])
    have hlen:=fC.len
    obtain⟨y,rfl⟩:∃y,ys=[y]:=by
     cases ys with
     | nil=>simp at hlen
     | cons y ys=>cases ys with
       | nil=>exact⟨y,rfl⟩
       | cons z zs=>simp at hlen
    have hxy:=fC.head
    have qT:=UE [y] (by rw[Z1];exact Yg)
    simp at qT
    refine⟨y,qT, ?_⟩
    unfold Ws at h;split at h
    ·rename_i s g;split at h
     ·rename_i e sz n cs he;split at h
      ·rename_i hf;simp only[aAk] at h;subst h;obtain⟨_,_,xs,ho,hc⟩:=S.sS s g _ he
       cases hxy with
       | own _ _ hg HU =>
         refine⟨[ρ s g],fun x hx=>by simp at hx;subst hx;exact HU,fun i j x y b hi hj _ _=>by
          have:=(List.getElem?_eq_some_iff.1 hi).1
          have:=(List.getElem?_eq_some_iff.1 hj).1
          simp only[length_singleton] at *
          omega,fun x hx b hb=>by simp at hx;subst hx;exact (wE ho b hb).1,fun d c=>rfl,fun D d c hD jU=>?_⟩
         obtain⟨k1,k2⟩:=jU 0 _ rfl
         simp only[Nat.add_zero] at k1 k2;refine⟨?_,fun i e' x hi hx=>?_⟩
         ·have:=cX.own (C:=D) d c k1 (by rw[k2];exact HU)
          rw[k2] at this;exact this
         ·match i with
          | 0 =>
            simp only[E2,Xv,Am,getElem?_cons_zero,aAk] at hi hx;subst hi;subst hx;exact⟨xs,ho,hc.flat hf fun b o hb=>hD b o ⟨hb.1,hb.2.1,by simpa using hb.2.2 s g _ he⟩⟩
          | i+1=>simp at hx
      ·cases h
     ·cases h
    ·exact Vg (Lv h) ((Pm S hxy h).le UD)
 ·rename_i rs gJ;simp only[Option.map_eq_some_iff] at h;obtain⟨ds,Vh,rfl⟩:=h
  have hm:=jO _ _ Vh
  have hex:∃xs:List AV,fn.results.toList.map (lQ P st)=xs.map some/\xs.map (Ef st)=ds.map some:=by
   generalize fn.results.toList=l at hm
   clear Vh
   induction l generalizing ds with
   | nil=>cases ds with
     | nil=>exact⟨[],rfl,rfl⟩
     | cons d ds=>simp at hm
   | cons r l ih=>cases ds with
     | nil=>simp at hm
     | cons d ds =>
       simp only[map_cons,List.cons.injEq] at hm;obtain⟨xs,e1,e2⟩:=ih ds hm.2
       cases hr:lQ P st r with
       | none=>simp[hr,cT] at hm
       | some x =>
         simp only[hr,cT] at hm;exact⟨x :: xs,by simp[hr,e1],by simp[hm.1,e2]⟩
  obtain⟨xs,e1,e2⟩:=hex
  obtain⟨ys,Yg,fC⟩:=mD S _ xs e1
  have zL:xs.length=fn.results.toList.length:=by have:=congrArg List.length e1;simpa using this.symm
  have Xz:ds.length=xs.length:=by have:=congrArg List.length e2;simpa using this.symm
  have aCa:ys.toArray.size≠1:=by
   intro h1;have hlen:=fC.len
   simp only[size_toArray] at h1;have:fn.results.toList.length=1:=by omega
   obtain⟨z,hz⟩:=length_eq_one_iff.1 this
   exact gJ z hz
  have qT:=UE ys Yg
  rw[dif_neg aCa] at qT;refine⟨_,qT, ?_⟩
  refine Vg (.eH ds (qB (p:=Flat) (f:=fun r=>cT (lQ P st r) (Ef st)) (fun a b h=>by
   cases hr:lQ P st a with
   | none=>simp[hr,cT] at h
   | some x=>simp only[hr,cT] at h;exact o7 h) _ _ Vh)) (.eH ds ys.toArray (by simp;rw[Xz];exact fC.len) fun i x y hx hy=>?_)
  have hi:i<xs.length:=by have:=(List.getElem?_eq_some_iff.1 hx).1;omega
  have Lp:Ef st xs[i]=some x:=by
   have:=congrArg (·[i]?) e2
   simp only[getElem?_map,hx,getElem?_eq_getElem hi,aAo,aAk] at this;exact this
  exact (TO S (fC.rel i xs[i] y (by simp[hi]) (by simpa using hy)) Lp).le UD
def J8 (w0:World) (ρ:Nat->Nat->Value) (st:St) (w:World) (d:Nat) (H:Nat->Obj->Prop) (f:Nat->AV->AV × List oA) (y:AV) (ks:List (Nat × Nat)) (u:Value):Prop :=
 (∀k∈ks,∃e,st.heap k.1 k.2=some e/\e.XT=false)/\∀c,(f c y).2.length=ks.length/\∀D:Ctx,(∀b o,H b o->D.h b o)->(∀(i:Nat) (k:Nat × Nat),ks[i]? = some k->c+i<D.aQ d/\D.ρ d (c+i)=ρ k.1 k.2) ->
  cX D (f c y).1 u/\∀(i:Nat) (e:oA) (k:Nat × Nat),(f c y).2[i]? = some e->ks[i]? = some k->oD D w w0.heap.size (ρ k.1 k.2) e
section pI
variable {h0:Nat->Obj->Prop} {w0:World} {F:Gs} {nt:Nat} {ρ:Nat->Nat->Value} {st:St} {a:Act} {w:World} {H:Nat->Obj->Prop}
theorem aCb (S:kS F h0 w0 nt ρ st a w) (hH:∀b o,(ctx h0 w0 ρ st w).h b o->H b o) {x y:AV} {u:Value} (hu:cX (ctx h0 w0 ρ st w) x u) (h:kX st x=some y) (d:Nat):J8 w0 ρ st w d H (Am d) y (iB x) u:=by
 unfold kX at h;split at h
 ·rename_i hf;simp only[aAk] at h;subst h;have hk:iB x=[]:=by cases hf<;>rfl
  rw[hk];refine⟨by simp,fun c=>?_⟩
  rw[Lu hf];exact⟨rfl,fun D hD _=>⟨hu.flat hf fun b o hb=>hD _ _ (hH _ _ hb),by simp⟩⟩
 ·split at h
  ·rename_i s g _;split at h
   ·rename_i e sz n cs he;split at h
    ·rename_i hf;simp only[aAk] at h;subst h;obtain⟨_,h1,xs,ho,hc⟩:=S.sS s g _ he
     have hu':u=ρ s g:=by cases hu;rfl
     subst hu'
     refine⟨by simp[iB];exact⟨_,he,rfl⟩,fun c=>⟨rfl,fun D hD jU=>?_⟩⟩
     obtain⟨k1,k2⟩:=jU 0 (s,g) rfl
     simp only[Nat.add_zero] at k1 k2;refine⟨?_,fun i e' k hi hk=>?_⟩
     ·have:=cX.own (C:=D) d c k1 (by rw[k2];exact h1)
      rw[k2] at this;exact this
     ·match i with
      | 0 =>
        simp only[Am,iB,getElem?_cons_zero,aAk] at hi hk;subst hi;subst hk;exact⟨xs,ho,hc.flat hf fun b o hb=>hD _ _ (hH _ _ hb)⟩
      | i+1=>simp[iB] at hk
    ·cases h
   ·cases h
  ·cases h
theorem aCc {f:Nat->AV->AV × List oA} {kf:AV->List (Nat × Nat)} {d:Nat}:∀(xs ys:List AV) (us:List Value),xs.length=ys.length->xs.length=us.length ->
 (∀(i:Nat) (x y:AV) (u:Value),xs[i]? = some x->ys[i]? = some y->us[i]? = some u->J8 w0 ρ st w d H f y (kf x) u) ->
 (∀k∈xs.flatMap kf,∃e,st.heap k.1 k.2=some e/\e.XT=false)/\∀c,(rA f c ys).2.length=(xs.flatMap kf).length/\∀D:Ctx,(∀b o,H b o->D.h b o) ->
  (∀(i:Nat) (k:Nat × Nat),(xs.flatMap kf)[i]? = some k->c+i<D.aQ d/\D.ρ d (c+i)=ρ k.1 k.2) ->
  lK D (rA f c ys).1 us/\∀(i:Nat) (e:oA) (k:Nat × Nat),(rA f c ys).2[i]? = some e->(xs.flatMap kf)[i]? = some k->oD D w w0.heap.size (ρ k.1 k.2) e
 | [],ys,us,h1,h2,_=>by
   have e1:ys=[]:=length_eq_zero_iff.1 (by simpa using h1.symm)
   have e2:us=[]:=length_eq_zero_iff.1 (by simpa using h2.symm)
   subst e1;subst e2;exact⟨by simp,fun c=>⟨rfl,fun D _ _=>⟨.nil _,by simp[rA]⟩⟩⟩
 | x :: xs,[],us,h1,_,_=>by simp at h1
 | x :: xs,y :: ys,[],_,h2,_=>by simp at h2
 | x :: xs,y :: ys,u :: us,h1,h2,hg=>by
   obtain⟨g1,g2⟩:=hg 0 x y u rfl rfl rfl
   obtain⟨i1,i2⟩:=aCc xs ys us (by simpa using h1) (by simpa using h2) fun i x' y' u' hx hy hu=>hg (i+1) x' y' u' (by simpa using hx) (by simpa using hy) (by simpa using hu)
   refine⟨fun k hk=>?_,fun c=>?_⟩
   ·simp only[flatMap_cons,mem_append] at hk;rcases hk with hk|hk
    ·exact g1 k hk
    ·exact i1 k hk
   ·obtain⟨l1,m1⟩:=g2 c
    obtain⟨l2,m2⟩:=i2 (c+(f c y).2.length)
    rw[l1] at l2 m2;simp only[rA,flatMap_cons,length_append,l1];refine⟨by rw[l2],fun D hD jU=>?_⟩
    obtain⟨r1,e1⟩:=m1 D hD fun i k hk=>jU i k (by rw[getElem?_append_left (List.getElem?_eq_some_iff.1 hk).1];exact hk)
    obtain⟨r2,e2⟩:=m2 D hD fun i k hk=>by
     have:=jU ((kf x).length+i) k (by rw[getElem?_append_right (by omega)];simpa using hk)
     rw[Nat.add_assoc];exact this
    refine⟨.cons r1 r2,fun i e k hi hk=>?_⟩
    by_cases aW:i<(kf x).length
    ·rw[getElem?_append_left (by rw[l1];exact aW)] at hi
     rw[getElem?_append_left aW] at hk;exact e1 i e k hi hk
    ·rw[getElem?_append_right (by rw[l1];omega),l1] at hi
     rw[getElem?_append_right (by omega)] at hk
     exact e2 _ e k hi hk
theorem DF {α β:Type} {f:α->Option β} {l:List α} {r:List β} (h:cK (l.map f)=some r):l.length=r.length/\∀(i:Nat) x y,l[i]? = some x->r[i]? = some y->f x=some y:=by
 have hm:=jO _ _ h
 have hl:l.length=r.length:=by have:=congrArg List.length hm;simpa using this
 refine⟨hl,fun i x y hx hy=>?_⟩
 have:=congrArg (·[i]?) hm
 simp only[getElem?_map,hx,hy,aAo,aAk] at this;exact this
theorem aHc (S:kS F h0 w0 nt ρ st a w) (hH:∀b o,(ctx h0 w0 ρ st w).h b o->H b o) {x y:AV} {u:Value} (hu:cX (ctx h0 w0 ρ st w) x u) (h:sR st x=some y) (d:Nat):J8 w0 ρ st w d H (Xv d) y (jI x) u:=by
 cases x
 case agg cs =>
  simp only[sR,Option.map_eq_some_iff] at h;obtain⟨ds,Vh,rfl⟩:=h
  obtain⟨hl,R4⟩:=DF Vh
  cases hu with
  | agg _ ar hla hr h1 =>
    obtain⟨g1,g2⟩:=aCc (w0:=w0) (ρ:=ρ) (st:=st) (w:=w) (H:=H) (f:=Am d) (kf:=iB) (d:=d) cs ds ar.toList hl (by simpa using hla) fun i x y v hx hy hv=>aCb S hH (hr i x v hx (by simpa using hv)) (R4 i x y hx hy) d
    refine⟨g1,fun c=>?_⟩
    obtain⟨l1,m1⟩:=g2 c
    refine⟨l1,fun D hD jU=>?_⟩
    obtain⟨r1,e1⟩:=m1 D hD jU
    exact⟨.agg _ ar (by simpa using r1.len) (fun i x y hx hy=>r1.rel i x y hx (by simpa using hy)) h1,e1⟩
 all_goals
  have g:=aCb S hH hu h d
  cases y<;>first|exact g|skip
  all_goals
   exfalso
   simp only[sR] at h;unfold kX at h;split at h
   ·simp at h
   ·simp at h
    try (split at h<;>(try split at h)<;>simp at h)
theorem aHd (S:kS F h0 w0 nt ρ st a w) (hH:∀b o,(ctx h0 w0 ρ st w).h b o->H b o) {x y:AV} {u:Value} (hu:cX (ctx h0 w0 ρ st w) x u) (h:Eg st x=some y) (d:Nat):J8 w0 ρ st w d H (E2 d) y (lX x) u:=by
 cases x
 case eH cs =>
  simp only[Eg,Option.map_eq_some_iff] at h;obtain⟨ds,Vh,rfl⟩:=h
  obtain⟨hl,R4⟩:=DF Vh
  cases hu with
  | eH _ ar hla hr =>
    obtain⟨g1,g2⟩:=aCc (w0:=w0) (ρ:=ρ) (st:=st) (w:=w) (H:=H) (f:=Xv d) (kf:=jI) (d:=d) cs ds ar.toList hl (by simpa using hla) fun i x y v hx hy hv=>aHc S hH (hr i x v hx (by simpa using hv)) (R4 i x y hx hy) d
    refine⟨g1,fun c=>?_⟩
    obtain⟨l1,m1⟩:=g2 c
    refine⟨l1,fun D hD jU=>?_⟩
    obtain⟨r1,e1⟩:=m1 D hD jU
    exact⟨.eH _ ar (by simpa using r1.len) (fun i x y hx hy=>r1.rel i x y hx (by simpa using hy)),e1⟩
 case agg cs =>
  have g:=aHc S hH hu h d
  cases y<;>first|exact g|(simp only[Eg,sR,Option.map_eq_some_iff] at h;obtain⟨_,_,h⟩:=h;cases h)
 all_goals
  have g:=aCb S hH hu h d
  cases y<;>first|exact g|skip
  all_goals
   exfalso
   simp only[Eg,sR] at h;unfold kX at h;split at h
   ·simp at h
   ·simp at h
    try (split at h<;>(try split at h)<;>simp at h)
theorem Xq (S:kS F h0 w0 nt ρ st a w) {x r:AV} {u:Value} (hu:cX (ctx h0 w0 ρ st w) x u) (hn:(lX x).Nodup) (h:Eg st x=some r):CL h0 w0 w r u:=by
 have hH:∀b o,(ctx h0 w0 ρ st w).h b o->newHs h0 w0 w ((lX x).map fun k=>ρ k.1 k.2) b o:=fun b o hb=>by
  have g:=(aHd (H:=(ctx h0 w0 ρ st w).h) S (fun _ _ h=>h) hu h 0).1
  refine⟨hb.1,hb.2.1,fun y hy=>?_⟩
  obtain⟨k,hk,rfl⟩:=mem_map.1 hy
  obtain⟨e,he,_⟩:=g k hk
  exact hb.2.2 _ _ e he
 have g:=fun d=>aHd S hH hu h d
 have key:∀y∈(lX x).map (fun k=>ρ k.1 k.2),∃k e,k∈lX x/\y=ρ k.1 k.2/\st.heap k.1 k.2=some e/\e.XT=false:=fun y hy=>by
  obtain⟨k,hk,rfl⟩:=mem_map.1 hy
  obtain⟨e,he,hl⟩:=(g 0).1 k hk
  exact⟨k,e,hk,rfl,he,hl⟩
 refine⟨(lX x).map fun k=>ρ k.1 k.2,fun y hy=>?_,fun i j y z b hy hz hb oM=>?_,fun y hy b hb=>?_,fun d c=>by rw[((g d).2 c).1];simp,fun D d c hD jU=>?_⟩
 ·obtain⟨k,e,_,rfl,he,_⟩:=key y hy
  exact (S.sS _ _ e he).2.1
 ·rw[getElem?_map] at hy hz;cases hi:(lX x)[i]? with
  | none=>simp[hi] at hy
  | some k=>cases hj:(lX x)[j]? with
    | none=>simp[hj] at hz
    | some k' =>
      simp only[hi,hj,aAo,aAk] at hy hz;subst hy;subst hz;obtain⟨e,he,_⟩:=(g 0).1 k (mem_of_getElem? hi)
      obtain⟨e',zX,_⟩:=(g 0).1 k' (mem_of_getElem? hj)
      obtain⟨q1,q2⟩:=S.inj _ _ _ _ e e' b he zX hb oM
      have hkk:k=k':=Prod.ext q1 q2
      subst hkk;obtain⟨hil,Dx⟩:=List.getElem?_eq_some_iff.1 hi
      obtain⟨P3,hje⟩:=List.getElem?_eq_some_iff.1 hj
      have hp:=pairwise_iff_getElem.1 hn
      rcases Nat.lt_trichotomy i j with aW|heq|aW
      ·exact absurd (Dx.trans hje.symm) (hp i j hil P3 aW)
      ·exact heq
      ·exact absurd (hje.trans Dx.symm) (hp j i P3 hil aW)
 ·obtain⟨k,e,_,rfl,he,hl⟩:=key y hy
  exact ((S.sS _ _ e he).2.2.PT b hb).1 hl
 ·obtain⟨r1,e1⟩:=((g d).2 c).2 D hD fun i k hk=>jU i _ (by rw[getElem?_map,hk];rfl)
  refine⟨r1,fun i e y hi hy=>?_⟩
  rw[getElem?_map] at hy;cases hk:(lX x)[i]? with
  | none=>simp[hk] at hy
  | some k =>
    simp only[hk,aAo,aAk] at hy;subst hy;exact e1 i e k hi hk
end pI
theorem GK {h0:Nat->Obj->Prop} {w0:World} {F:Gs} {nt:Nat} {ρ:Nat->Nat->Value} {st:St} {a:Act} {w:World} (S:kS F h0 w0 nt ρ st a w) {fn:Func} {r:AV} (h:Qm P fn st=some r) :
 ∃v,(results fn a.tmps).run P w=.ok v w/\CL h0 w0 w r v:=by
 have UE:∀(ys:List Value),(fn.results.toList.mapM (Bm a.tmps)).run P w=.ok ys w ->
  (results fn a.tmps).run P w=.ok (if h:ys.toArray.size=1 then ys.toArray[0] else .tuple ys.toArray) w:=by
  intro ys Yg;have e:results fn a.tmps=(do let vs <- fn.results.mapM (Bm a.tmps);pure (if h:vs.size=1 then vs[0] else .tuple vs)):=by
   unfold results;congr 1
  rw[e,Array.mapM_eq_mapM_toList];simp only[Sem.run_bind,Sem.run_map,Yg,Result.andThen_ok,Sem.run_pure]
 unfold Qm at h;split at h
 ·rename_i r1 Z1;cases h1:lQ P st r1 with
  | none=>simp[h1,cT] at h
  | some x =>
    simp only[h1,cT] at h;split at h
    ·rename_i hn;obtain⟨ys,Yg,fC⟩:=mD (P:=P) S [r1] [x] (by simp[h1])
     have hlen:=fC.len
     obtain⟨y,rfl⟩:∃y,ys=[y]:=by
      cases ys with
      | nil=>simp at hlen
      | cons y ys=>cases ys with
        | nil=>exact⟨y,rfl⟩
        | cons z zs=>simp at hlen
     have qT:=UE [y] (by rw[Z1];exact Yg)
     simp at qT
     exact⟨y,qT,Xq S fC.head hn h⟩
    ·cases h
 ·rename_i rs gJ;cases FW:cK (fn.results.toList.map fun r=>lQ P st r) with
  | none=>simp[FW,cT] at h
  | some xs =>
    simp only[FW,cT] at h;split at h
    ·rename_i hn;have e1:=jO _ _ FW
     obtain⟨ys,Yg,fC⟩:=mD S _ xs e1
     have zL:xs.length=fn.results.toList.length:=by have:=congrArg List.length e1;simpa using this.symm
     have aCa:ys.toArray.size≠1:=by
      intro h1;have hlen:=fC.len
      simp only[size_toArray] at h1;have:fn.results.toList.length=1:=by omega
      obtain⟨z,hz⟩:=length_eq_one_iff.1 this
      exact gJ z hz
     have qT:=UE ys Yg
     rw[dif_neg aCa] at qT;exact⟨_,qT,Xq S (.eH xs ys.toArray (by simpa using fC.len) fun i x y hx hy=>fC.rel i x y hx (by simpa using hy)) hn h⟩
    ·cases h
theorem Nt {h0:Nat->Obj->Prop} {w0:World} {F:Gs} {nt:Nat} {ρ:Nat->Nat->Value} {st:St} {a:Act} {w:World} (S:kS F h0 w0 nt ρ st a w) {f:Nat} {fn:Func} {r:AV} (h:jD P f fn st=some r) :
 ∃v,(results fn a.tmps).run P w=.ok v w/\CL h0 w0 w r v:=by
 unfold jD at h;split at h
 ·exact GK S h
 ·exact NB S h
theorem aCd {h0:Nat->Obj->Prop} {w:World} {xs:List AV} {vs:Array Value} {nt:Nat} (hh:∀b o,h0 b o->w.heap[b]? = some o) (fC:lK (bare h0) xs vs.toList) :
 kS Gs.none h0 w nt (fun _ _=>undef) (St.init xs) { tmps:=vs++Array.replicate (nt-vs.size) undef,defers:=[]} w:=by
 have k:(bare h0).Le (ctx h0 w (fun _ _=>undef) (St.init xs) w):=⟨fun b o h=>⟨hh b o h,fun _=>h,fun s g e he=>by simp[St.init] at he⟩,fun _=>Nat.le_refl _,fun _ _ h=>absurd h (by simp[bare])⟩
 refine⟨fun t=>?_,fun s g e he=>by simp[St.init] at he,fun s g s' g' e e' b he=>by simp[St.init] at he,⟨rfl,rfl,rfl,Nat.le_refl _,fun _ _ _=>rfl⟩,by simp;omega,rfl,⟨fun x v h=>h.elim,fun b o h=>h.elim,Nat.zero_le _⟩⟩
 have hlen:=fC.len
 simp only[Array.length_toList] at hlen;show cX _ ((xs[t]?).getD (.v undef)) _
 by_cases ht:t<vs.size
 ·have hx:xs[t]? = some (xs[t]'(by omega)):=by simp[show t<xs.length by omega]
  have hy:vs.toList[t]? = some vs[t]:=by simp[ht]
  have:=(fC.rel t _ _ hx hy).le k
  rw[hx];simp only[Option.getD_some];have e:(vs++Array.replicate (nt-vs.size) undef).getD t undef=vs[t]:=by
   simp[Array.getElem?_append_left ht,ht]
  rw[e];exact this
 ·have hx:xs[t]? = none:=getElem?_eq_none (by omega)
  rw[hx];have e:(vs++Array.replicate (nt-vs.size) undef).getD t undef=undef:=by
   rw[Array.getD_eq_getD_getElem?,Array.getElem?_append_right (by omega),Array.getElem?_replicate]
   split<;>rfl
  rw[e];exact .v _
def JX (P:Program):Prop:=pE P Ext.ext/\Sn P Ext.Z9
theorem aE4 {h0:Nat->Obj->Prop} {w0:World} {F:Gs} {nt:Nat} {ρ:Nat->Nat->Value} {st:St} {a:Act} {w:World} (S:kS F h0 w0 nt ρ st a w) {xs:List AV} {vs:Array Value} {n:Nat} (fC:lK (ctx h0 w0 ρ st w) xs vs.toList) :
 kS ⟨fun x v=>F.fr x v\/∃t,x=st.env t/\v=a.tmps.getD t undef,F.hb,F.sz⟩ h0 w0 n ρ ((St.init xs).back st) { tmps:=vs++Array.replicate (n-vs.size) undef,defers:=[]} w:=by
 have hc:ctx h0 w0 ρ ((St.init xs).back st) w=ctx h0 w0 ρ st w:=rfl
 refine⟨fun t=>?_,fun s g e he=>?_,fun s g s' g' e e' b he zX=>S.inj s g s' g' e e' b he zX,S.ext,by simp;omega,rfl,⟨fun x v h=>?_,S.Qg.2.1,S.Qg.2.2⟩⟩
 ·have hlen:=fC.len
  simp only[Array.length_toList] at hlen;show cX _ ((xs[t]?).getD (.v undef)) _
  by_cases ht:t<vs.size
  ·have hx:xs[t]? = some (xs[t]'(by omega)):=by simp[show t<xs.length by omega]
   have hy:vs.toList[t]? = some vs[t]:=by simp[ht]
   have:=fC.rel t _ _ hx hy
   rw[hx];simp only[Option.getD_some];have e:(vs++Array.replicate (n-vs.size) undef).getD t undef=vs[t]:=by
    simp[Array.getElem?_append_left ht,ht]
   rw[e];exact this
  ·have hx:xs[t]? = none:=getElem?_eq_none (by omega)
   rw[hx];have e:(vs++Array.replicate (n-vs.size) undef).getD t undef=undef:=by
    rw[Array.getD_eq_getD_getElem?,Array.getElem?_append_right (by omega),Array.getElem?_replicate]
    split<;>rfl
   rw[e];exact .v _
 ·exact S.sS s g e he
 ·rcases h with h|⟨t,rfl,rfl⟩
  ·exact S.Qg.1 x v h
  ·exact S.env t
theorem GL {h0:Nat->Obj->Prop} {w0:World} {F:Gs} {nt:Nat} {ρ:Nat->Nat->Value} {st:St} {a:Act} {w:World} (S:kS F h0 w0 nt ρ st a w) {fn:Func} {r:AV} (h:Ci P fn st=some r) :
 ∃v,(results fn a.tmps).run P w=.ok v w/\cX (ctx h0 w0 ρ st w) r v:=by
 have UE:∀(ys:List Value),(fn.results.toList.mapM (Bm a.tmps)).run P w=.ok ys w ->
  (results fn a.tmps).run P w=.ok (if h:ys.toArray.size=1 then ys.toArray[0] else .tuple ys.toArray) w:=by
  intro ys Yg;have e:results fn a.tmps=(do let vs <- fn.results.mapM (Bm a.tmps);pure (if h:vs.size=1 then vs[0] else .tuple vs)):=by
   unfold results;congr 1
  rw[e,Array.mapM_eq_mapM_toList];simp only[Sem.run_bind,Sem.run_map,Yg,Result.andThen_ok,Sem.run_pure]
 unfold Ci at h;split at h
 ·rename_i r1 Z1;obtain⟨ys,Yg,fC⟩:=mD (P:=P) S [r1] [r] (by simp[h])
  have hlen:=fC.len
  obtain⟨y,rfl⟩:∃y,ys=[y]:=by
   cases ys with
   | nil=>simp at hlen
   | cons y ys=>cases ys with
     | nil=>exact⟨y,rfl⟩
     | cons z zs=>simp at hlen
  have qT:=UE [y] (by rw[Z1];exact Yg)
  simp at qT
  exact⟨y,qT,fC.head⟩
 ·rename_i rs gJ;cases FW:cK (fn.results.toList.map fun r=>lQ P st r) with
  | none=>simp[FW] at h
  | some xs =>
    simp only[FW,aAo,aAk] at h;subst h;have e1:=jO _ _ FW
    obtain⟨ys,Yg,fC⟩:=mD S _ xs e1
    have zL:xs.length=fn.results.toList.length:=by have:=congrArg List.length e1;simpa using this.symm
    have aCa:ys.toArray.size≠1:=by
     intro h1;have hlen:=fC.len
     simp only[size_toArray] at h1;have:fn.results.toList.length=1:=by omega
     obtain⟨z,hz⟩:=length_eq_one_iff.1 this
     exact gJ z hz
    have qT:=UE ys Yg
    rw[dif_neg aCa] at qT;exact⟨_,qT,.eH xs ys.toArray (by simpa using fC.len) fun i x y hx hy=>fC.rel i x y hx (by simpa using hy)⟩
theorem GM {xs:List AV} {u:Nat × Nat × Nat × List AV × List AV} (h:sX xs=some u):xs=.uniq u.1 u.2.1 u.2.2.1 u.2.2.2.1 :: u.2.2.2.2:=by
 unfold sX at h;split at h
 ·simp only[aAk] at h;subst h;rfl
 ·cases h
theorem S6 {h0:Nat->Obj->Prop} {w:World} {v0:Value} {e sz m:Nat} {cs xs:List AV} {ys:List Value} {vs:Array Value} {nt:Nat} (hh:∀b o,h0 b o->w.heap[b]? = some o) (gJ:∀b o,h0 b o->dD v0≠some b) (ho:mZ w 0 e sz v0 m ys) (hc:fU (bare h0) cs ys) (fC:lK (bare h0) xs vs.toList) :
 kS ⟨fun _ _=>False,fun b o=>w.heap[b]? = some o/\dD v0≠some b,w.heap.size⟩ h0 { w with heap:=#[]} nt (fun s g=>if s=0/\g=0 then v0 else undef) (St.tU e sz m cs xs) { tmps:=(#[v0]++vs)++Array.replicate (nt-(#[v0]++vs).size) undef,defers:=[]} w:=by
 have vR:∀s g e',(St.tU e sz m cs xs).heap s g=some e'->s=0/\g=0/\e'=.row e sz m cs:=fun s g e' h=>by
  simp only[St.tU] at h;split at h
  ·rename_i h1;cases h;exact⟨h1.1,h1.2,rfl⟩
  ·cases h
 have k:(bare h0).Le (ctx h0 { w with heap:=#[]} (fun s g=>if s=0/\g=0 then v0 else undef) (St.tU e sz m cs xs) w) :=
  ⟨fun b o h=>⟨hh b o h,fun aW=>by simp at aW,fun s g e' he=>by
   obtain⟨rfl,rfl,_⟩:=vR _ _ _ he
   exact gJ b o h⟩,fun _=>Nat.zero_le _,fun _ _ h=>absurd h (by simp[bare])⟩
 refine⟨fun t=>?_,fun s g e' he=>?_,fun s g s' g' e1 e2 b he zX _ _=>?_,⟨rfl,rfl,rfl,Nat.zero_le _,fun b hb _=>by simp at hb⟩,by simp;omega,rfl,⟨fun x v h=>h.elim,fun b o h=>⟨h.1,fun aW=>by simp at aW,fun s g e' he=>?_⟩,Nat.le_refl _⟩⟩
 ·have hlen:=fC.len
  simp only[Array.length_toList] at hlen;cases t with
  | zero =>
    have e0:((#[v0]++vs)++Array.replicate (nt-(#[v0]++vs).size) undef).getD 0 undef=v0:=by
     simp[Array.getElem?_append]
    rw[e0];have:=cX.own (C:=ctx h0 { w with heap:=#[]} (fun s g=>if s=0/\g=0 then v0 else undef) (St.tU e sz m cs xs) w) 0 0 (by show 0<(St.tU e sz m cs xs).aQ 0;simp[St.tU]) (by show (if (0:Nat)=0/\(0:Nat)=0 then v0 else undef).oneCell'=true;simp;exact qL ho)
    have e1:(ctx h0 { w with heap:=#[]} (fun s g=>if s=0/\g=0 then v0 else undef) (St.tU e sz m cs xs) w).ρ 0 0=v0:=by show (if (0:Nat)=0/\(0:Nat)=0 then v0 else undef)=v0;simp
    rw[e1] at this;exact this
  | succ t =>
    show cX _ ((xs[t]?).getD (.v undef)) _
    by_cases ht:t<vs.size
    ·have hx:xs[t]? = some (xs[t]'(by omega)):=by simp[show t<xs.length by omega]
     have hy:vs.toList[t]? = some vs[t]:=by simp[ht]
     have:=(fC.rel t _ _ hx hy).le k
     rw[hx];simp only[Option.getD_some];have e2:((#[v0]++vs)++Array.replicate (nt-(#[v0]++vs).size) undef).getD (t+1) undef=vs[t]:=by
      rw[Array.getD_eq_getD_getElem?,Array.getElem?_append_left (by simp;omega),Array.getElem?_append_right (by simp)]
      simp[ht]
     rw[e2];exact this
    ·have hx:xs[t]? = none:=getElem?_eq_none (by omega)
     rw[hx];have e2:((#[v0]++vs)++Array.replicate (nt-(#[v0]++vs).size) undef).getD (t+1) undef=undef:=by
      rw[Array.getD_eq_getD_getElem?,Array.getElem?_append_right (by simp;omega),Array.getElem?_replicate]
      split<;>rfl
     rw[e2];exact .v _
 ·obtain⟨rfl,rfl,rfl⟩:=vR _ _ _ he
  refine⟨by simp[St.tU],by simp;exact qL ho, ?_⟩
  simp only[and_self,if_true];exact⟨ys,ho,hc.le k⟩
 ·obtain⟨rfl,rfl,_⟩:=vR _ _ _ he
  obtain⟨rfl,rfl,_⟩:=vR _ _ _ zX
  exact⟨rfl,rfl⟩
 ·obtain⟨rfl,rfl,_⟩:=vR _ _ _ he
  exact h.2
theorem aE5 (hm:P.follows .mixedOrders=true) {call:Nat->List AV->Option AV} {inl:Nat->List AV->St->Option (AV × St)} (jC:pE P call) (Mz:Sn P inl) {n g:Nat} {xs:List AV} {u:Nat × Nat × Nat × List AV × List AV} (hq:sX xs=some u) {r:AV}
 (h:runM P call inl n g u.1 u.2.1 u.2.2.1 u.2.2.2.1 u.2.2.2.2=some r):zA P g/\Bj P g xs r:=by
 have FW:=GM hq
 subst FW;obtain⟨e,sz,m,cs,rest⟩:=u
 simp only at h ⊢
 unfold runM at h;cases hf:P.funcs[g]? with
 | none=>simp[hf] at h
 | some fn =>
   simp only[hf] at h;split at h
   ·rename_i pJ;cases hb:fn.body with
    | none=>simp[hb] at h
    | some c =>
      simp only[hb] at h;simp only[Ua,Zu,hb,Bool.and_eq_true,bne_iff_ne,ne_eq] at pJ;refine⟨⟨fn,hf,by simpa using pJ.1,by simp[hb]⟩, ?_⟩
      show n8 P g e sz m cs rest r
      intro w h0 v0 ys vs hh gJ ho zO fC;cases h1:uN P (mW c) call inl n c (St.tU e sz m cs rest) with
      | none=>simp[h1,cT] at h
      | some es =>
        obtain⟨ex,sf⟩:=es
        simp only[h1,cT] at h;refine calls_of_wp hf hb ?_
        refine pG hm jC Mz n c (St.tU e sz m cs rest) sf ex _ _ w _ pJ.2 (S6 hh gJ ho zO fC) h1 fun oK a' w' S'=>?_
        have fin:Lf P fn sf=some r->∃e' sV n' Gp,r=.uniq e' sV n' Gp/\a'.defers=[]/\∃v',(results fn a'.tmps).run P w'=.ok v' w'/\w.grownBy w' (dD v0) /\
         ∃zs,mZ w' 0 e' sV v' n' zs/\fU (bare h0) Gp zs/\∀b,dD v'=some b->dD v0=some b\/w.heap.size<=b:=fun h=>by
         unfold Lf at h;split at h
         ·rename_i r1 Z1;split at h
          ·rename_i s k hrv;split at h
           ·rename_i e' sV n' Gp hhp
            split at h
            ·rename_i hmf;simp only[aAk] at h;subst h;obtain⟨y,hy,Sg⟩:=mD (P:=P) S' [r1] [.own s k] (by simp[hrv])
             have hlen:=Sg.len
             obtain⟨z,rfl⟩:∃z,y=[z]:=by
              cases y with
              | nil=>simp at hlen
              | cons y ys=>cases ys with
                | nil=>exact⟨y,rfl⟩
                | cons z zs=>simp at hlen
             have hz:z=oK s k:=by
              have:=Sg.head
              cases this
              rfl
             subst hz;have qT:(results fn a'.tmps).run P w'=.ok (oK s k) w':=by
              have e1:results fn a'.tmps=(do let vs <- fn.results.mapM (Bm a'.tmps);pure (if h:vs.size=1 then vs[0] else .tuple vs)):=by
               unfold results;congr 1
              rw[e1,Array.mapM_eq_mapM_toList,Z1];simp only[Sem.run_bind,Sem.run_map,hy,Result.andThen_ok,Sem.run_pure];simp
             obtain⟨_,_,zs,hzo,hzc⟩:=S'.sS s k _ hhp
             obtain⟨_,hkb,hsz⟩:=S'.Qg
             refine⟨e',sV,n',Gp,rfl,S'.defers,_,qT,⟨S'.ext.os,S'.ext.tape,S'.ext.output,hsz,fun b hb hnb=>?_⟩,zs, ?_, ?_,fun b hb=>?_⟩
             ·have JW:w.heap[b]? = some w.heap[b]:=Array.getElem?_eq_getElem hb
              rw[JW];exact (hkb b _ ⟨JW,fun h=>hnb h.symm⟩).1
             ·exact wD hzo (Nat.zero_le _)
             ·exact⟨hzc.len,fun i x y hx hy=>(hzc.rel i x y hx hy).Se (hmf x (mem_of_getElem? hx)),hzc.one⟩
             ·by_cases h1:dD v0=some b
              ·exact .inl h1
              ·right
               rcases Nat.lt_or_ge b w.heap.size with aW|hge
               ·exfalso
                have JW:w.heap[b]? = some w.heap[b]:=Array.getElem?_eq_getElem aW
                exact (hkb b _ ⟨JW,h1⟩).2.2 s k _ hhp hb
               ·exact hge
            ·cases h
           ·cases h
          ·rename_i s k n0 hrv;split at h
           ·rename_i e' sV n' Gp hhp
            split at h
            ·rename_i hmf;obtain⟨Cn,hcl',hmf⟩:=hmf
             simp only[aAk] at h;subst h;obtain⟨y,hy,Sg⟩:=mD (P:=P) S' [r1] [.vw s k 0 n0] (by simp[hrv])
             have hlen:=Sg.len
             obtain⟨z,rfl⟩:∃z,y=[z]:=by
              cases y with
              | nil=>simp at hlen
              | cons y ys=>cases ys with
                | nil=>exact⟨y,rfl⟩
                | cons z zs=>simp at hlen
             obtain⟨_,_,zs,hzo,hzc⟩:=S'.sS s k _ hhp
             obtain⟨_,hkb,hsz⟩:=S'.Qg
             have hz:∃b cap cur,z=.slice (some ⟨b,0,none⟩) n0 cap/\dD (oK s k)=some b/\w'.heap[b]? = some (.cells cur e' (0,0))/\n0<=cap/\cap<=maxLen/\cur.size=cap * sV/\cur.toList.take (n' * sV)=zs/\0<cap:=by
              have hv:=Sg.head
              cases hv with
              | vw _ _ _ _ b cap hg hb nJ Ao =>
                have oM:dD (oK s k)=some b:=hb
                rcases hzo.2 with ⟨q,jU,hn⟩|⟨b',FJ,cur,jU,yI,hh,R5,Q6,CM,ht,qM⟩
                ·rw[jU,oR] at oM;cases oM
                ·have xG:b'=b:=by rw[jU,jJ qM] at oM;simpa using oM
                 subst xG;have hcc:cap=FJ:=Ao rfl _ _ _ jU
                 subst hcc;exact⟨b',cap,cur,rfl,oM,hh,nJ,Q6,CM,ht,qM⟩
             obtain⟨b,cap,cur,rfl,hbk,hhb,nJ,Q6,CM,ht,qM⟩:=hz
             have qT:(results fn a'.tmps).run P w'=.ok (.slice (some ⟨b,0,none⟩) n0 cap) w':=by
              have e1:results fn a'.tmps=(do let vs <- fn.results.mapM (Bm a'.tmps);pure (if h:vs.size=1 then vs[0] else .tuple vs)):=by
               unfold results;congr 1
              rw[e1,Array.mapM_eq_mapM_toList,Z1];simp only[Sem.run_bind,Sem.run_map,hy,Result.andThen_ok,Sem.run_pure];simp
             have hks:n0 * sV<=n' * sV:=Nat.mul_le_mul_right _ Cn
             refine⟨e',sV,n0,_,rfl,S'.defers,_,qT,⟨S'.ext.os,S'.ext.tape,S'.ext.output,hsz,fun b hb hnb=>?_⟩,zs.take (n0 * sV), ?_, ?_,fun b1 XY=>?_⟩
             ·have JW:w.heap[b]? = some w.heap[b]:=Array.getElem?_eq_getElem hb
              rw[JW];exact (hkb b _ ⟨JW,fun h=>hnb h.symm⟩).1
             ·refine⟨by rw[length_take,hzo.1];omega,.inr ⟨b,cap,cur,rfl,Nat.zero_le _,hhb,nJ,Q6,CM, ?_,qM⟩⟩
              rw[<- ht,take_take,Nat.min_eq_left hks]
             ·have hz2:fU (bare h0) Gp zs:=⟨hzc.len,fun i x y hx hy=>(hzc.rel i x y hx hy).Se (hmf x (mem_of_getElem? hx)),hzc.one⟩
              exact hz2.take _
             ·rw[jJ qM] at XY;simp only[aAk] at XY;subst XY;by_cases h1:dD v0=some b
              ·exact .inl h1
              ·right
               rcases Nat.lt_or_ge b w.heap.size with aW|hge
               ·exfalso
                have JW:w.heap[b]? = some w.heap[b]:=Array.getElem?_eq_getElem aW
                exact (hkb b _ ⟨JW,h1⟩).2.2 s k _ hhp hbk
               ·exact hge
            ·cases h
           ·cases h
          ·cases h
         ·cases h
        cases ex with
        | normal=>obtain⟨e',sV,n',Gp,rfl,h1,v',h2,h3,h4⟩:=fin h;exact⟨h1,v',h2,v',rfl,h3,h4⟩
        | ret=>obtain⟨e',sV,n',Gp,rfl,h1,v',h2,h3,h4⟩:=fin h;exact⟨h1,v',h2,v',rfl,h3,h4⟩
        | exit id=>cases h
   ·cases h
theorem S7 {h0:Nat->Obj->Prop} {w:World} {x:AV} {v0 v1:Value} {e sz m:Nat} {cs:List AV} {ys:List Value} {nt:Nat} (hh:∀b o,h0 b o->w.heap[b]? = some o) (gJ:∀b o,h0 b o->dD v1≠some b) (ho:mZ w 0 e sz v1 m ys) (hc:fU (bare h0) cs ys) (hx:cX (bare h0) x v0) :
 kS Gs.none h0 w nt (fun s g=>if s=1/\g=0 then v1 else undef) (St.Ht x e sz m cs) { tmps:=#[v0,v1]++Array.replicate (nt-(#[v0,v1]:Array Value).size) undef,defers:=[]} w:=by
 have vR:∀s g e',(St.Ht x e sz m cs).heap s g=some e'->s=1/\g=0/\e'=.Ii e sz m cs:=fun s g e' h=>by
  simp only[St.Ht] at h;split at h
  ·rename_i h1;cases h;exact⟨h1.1,h1.2,rfl⟩
  ·cases h
 have k:(bare h0).Le (ctx h0 w (fun s g=>if s=1/\g=0 then v1 else undef) (St.Ht x e sz m cs) w) :=
  ⟨fun b o h=>⟨hh b o h,fun _=>h,fun s g e' he=>by
   obtain⟨rfl,rfl,_⟩:=vR _ _ _ he
   exact gJ b o h⟩,fun _=>Nat.zero_le _,fun _ _ h=>absurd h (by simp[bare])⟩
 refine⟨fun t=>?_,fun s g e' he=>?_,fun s g s' g' e1 e2 b he zX _ _=>?_,⟨rfl,rfl,rfl,Nat.le_refl _,fun b hb _=>rfl⟩,by simp;omega,rfl,⟨fun x v h=>h.elim,fun b o h=>h.elim,Nat.zero_le _⟩⟩
 ·match t with
  | 0 =>
    have e0:(#[v0,v1]++Array.replicate (nt-(#[v0,v1]:Array Value).size) undef).getD 0 undef=v0:=by
     simp[Array.getElem?_append]
    rw[e0];exact hx.le k
  | 1 =>
    have e0:(#[v0,v1]++Array.replicate (nt-(#[v0,v1]:Array Value).size) undef).getD 1 undef=v1:=by
     simp[Array.getElem?_append]
    rw[e0];have:=cX.own (C:=ctx h0 w (fun s g=>if s=1/\g=0 then v1 else undef) (St.Ht x e sz m cs) w) 1 0 (by show 0<(St.Ht x e sz m cs).aQ 1;simp[St.Ht]) (by show (if (1:Nat)=1/\(0:Nat)=0 then v1 else undef).oneCell'=true;simp;exact qL ho)
    have e1:(ctx h0 w (fun s g=>if s=1/\g=0 then v1 else undef) (St.Ht x e sz m cs) w).ρ 1 0=v1:=by show (if (1:Nat)=1/\(0:Nat)=0 then v1 else undef)=v1;simp
    rw[e1] at this;exact this
  | t+2 =>
    have e2:(#[v0,v1]++Array.replicate (nt-(#[v0,v1]:Array Value).size) undef).getD (t+2) undef=undef:=by
     rw[Array.getD_eq_getD_getElem?,Array.getElem?_append_right (by simp),Array.getElem?_replicate]
     split<;>rfl
    rw[e2];exact .v _
 ·obtain⟨rfl,rfl,rfl⟩:=vR _ _ _ he
  refine⟨by simp[St.Ht],by simp;exact qL ho, ?_⟩
  simp only[and_self,if_true];exact⟨ys,ho,hc.le k⟩
 ·obtain⟨rfl,rfl,_⟩:=vR _ _ _ he
  obtain⟨rfl,rfl,_⟩:=vR _ _ _ zX
  exact⟨rfl,rfl⟩
theorem GN {xs:List AV} {u:AV × Nat × Nat × Nat × List AV} (h:uR xs=some u):xs=[u.1,.uniq u.2.1 u.2.2.1 u.2.2.2.1 u.2.2.2.2]:=by
 unfold uR at h;split at h
 ·simp only[aAk] at h;subst h;rfl
 ·cases h
theorem aCe (hm:P.follows .mixedOrders=true) {call:Nat->List AV->Option AV} {inl:Nat->List AV->St->Option (AV × St)} (jC:pE P call) (Mz:Sn P inl) {n g:Nat} {xs:List AV} {u:AV × Nat × Nat × Nat × List AV} (hh:sX xs=none) (hq:uR xs=some u) {r:AV}
 (h:PQ P call inl n g u.1 u.2.1 u.2.2.1 u.2.2.2.1 u.2.2.2.2=some r):zA P g/\Bj P g xs r:=by
 have FW:=GN hq
 subst FW;obtain⟨x,e,sz,m,cs⟩:=u
 simp only at h hh ⊢
 unfold PQ at h;cases hf:P.funcs[g]? with
 | none=>simp[hf] at h
 | some fn =>
   simp only[hf] at h;split at h
   ·rename_i pJ;cases hb:fn.body with
    | none=>simp[hb] at h
    | some c =>
      simp only[hb] at h;simp only[Ua,Zu,hb,Bool.and_eq_true,bne_iff_ne,ne_eq] at pJ;refine⟨⟨fn,hf,by simpa using pJ.1,by simp[hb]⟩, ?_⟩
      have hX:o0 P g x e sz m cs r->Bj P g [x,.uniq e sz m cs] r:=fun h=>by
       unfold Bj;split
       ·rename_i heq;cases heq
        cases hh
       ·rename_i heq;cases heq
        exact h
       ·rename_i h1 h2;exact absurd rfl (h2 _ _ _ _ _)
      refine hX fun w h0 v0 v1 ys hh gJ ho zO fC=>?_
      cases h1:uN P (mW c) call inl n c (St.Ht x e sz m cs) with
      | none=>simp[h1,cT] at h
      | some es =>
        obtain⟨ex,sf⟩:=es
        simp only[h1,cT] at h;refine calls_of_wp hf hb ?_
        refine pG hm jC Mz n c (St.Ht x e sz m cs) sf ex _ _ w _ pJ.2 (S7 hh gJ ho zO fC) h1 fun oK a' w' S'=>?_
        have fin:jD P g fn sf=some r->a'.defers=[]/\∃v,(results fn a'.tmps).run P w'=.ok v w'/\∃v',Ending.returned v=.returned v'/\CL h0 w w' r v'/\w.grownBy w' none:=fun h=>by
         obtain⟨v,hv,hr⟩:=Nt S' h
         exact⟨S'.defers,v,hv,v,rfl,hr,S'.ext⟩
        cases ex with
        | normal=>exact fin h
        | ret=>exact fin h
        | exit id=>cases h
   ·cases h
theorem J9 (hm:P.follows .mixedOrders=true) (hx:JX P):∀n,pE P (Nj P n)/\Sn P (Yz P n)
 | 0=>⟨fun g xs r h=>hx.1 g xs r h,fun g xs st r s' h=>by cases h⟩
 | n+1=>by
   obtain⟨ihc,ihi⟩:=J9 hm hx n
   refine⟨fun g xs r h=>?_,fun g xs st r s' h=>?_⟩
   ·rw[An] at h;split at h
    ·rename_i r' he
     simp only[aAk] at h;subst h;exact hx.1 g xs _ he
    ·cases hq:sX xs with
     | some u =>
       simp only[hq] at h;exact aE5 hm ihc ihi hq h
     | none =>
     simp only[hq] at h;cases hql:uR xs with
     | some u =>
       simp only[hql] at h;exact aCe hm ihc ihi hq hql h
     | none =>
     simp only[hql] at h;split at h
     ·cases h
     rename_i hnu;unfold L6 at h;cases hf:P.funcs[g]? with
     | none=>simp[hf] at h
     | some fn =>
       simp only[hf] at h;split at h
       ·rename_i pJ;cases hb:fn.body with
        | none=>simp[hb] at h
        | some c =>
          simp only[hb] at h;simp only[Ua,Zu,hb,Bool.and_eq_true,bne_iff_ne,ne_eq] at pJ;have hX:Vd P g xs r->Bj P g xs r:=fun h=>by
           unfold Bj;split
           ·simp[qR] at hnu
           ·simp[qR] at hnu
           ·exact h
          refine⟨⟨fn,hf,by simpa using pJ.1,by simp[hb]⟩,hX fun w h0 vs hh fC=>?_⟩
          cases h1:uN P (mW c) (Nj P n) (Yz P n) n c (St.init xs) with
          | none=>simp[h1,cT] at h
          | some es =>
            obtain⟨ex,sf⟩:=es
            simp only[h1,cT] at h;refine calls_of_wp hf hb ?_
            refine pG hm ihc ihi n c (St.init xs) sf ex _ _ w _ pJ.2 (aCd hh fC) h1 fun oK a' w' S'=>?_
            have fin:jD P g fn sf=some r->a'.defers=[]/\∃v,(results fn a'.tmps).run P w'=.ok v w'/\∃v',Ending.returned v=.returned v'/\CL h0 w w' r v'/\w.grownBy w' none:=fun h=>by
             obtain⟨v,hv,hr⟩:=Nt S' h
             exact⟨S'.defers,v,hv,v,rfl,hr,S'.ext⟩
            cases ex with
            | normal=>exact fin h
            | ret=>exact fin h
            | exit id=>cases h
       ·cases h
   ·rw[Qo] at h;cases hxi:Ext.Z9 g xs st with
    | some q =>
      rw[hxi] at h;simp only[aAk] at h;subst h;exact hx.2 g xs st r s' hxi
    | none =>
    rw[hxi] at h;unfold L7 at h;cases hf:P.funcs[g]? with
    | none=>simp[hf] at h
    | some fn =>
      simp only[hf] at h;split at h
      ·rename_i pJ;cases hb:fn.body with
       | none=>simp[hb] at h
       | some c =>
         simp only[hb] at h;simp only[Zu,hb,Bool.and_eq_true,bne_iff_ne,ne_eq] at pJ;refine⟨⟨fn,hf,by simpa using pJ.1,by simp[hb]⟩,fun F h0 w0 nt ρ a w vs K S fC hK=>?_⟩
         cases h1:uN P true (Nj P n) (Yz P n) n c ((St.init xs).back st) with
         | none=>simp[h1,cT] at h
         | some es =>
           obtain⟨ex,sf⟩:=es
           simp only[h1,cT] at h;refine calls_of_wp hf hb ?_
           refine pG (F:=⟨fun x v=>F.fr x v\/∃t,x=st.env t/\v=a.tmps.getD t undef,F.hb,F.sz⟩) hm ihc ihi n c ((St.init xs).back st) sf ex _ _ w _ pJ.2 (aE4 S fC) h1 fun oK a' w' S'=>?_
           have fin:((Ci P fn sf).map fun x=>(x,sf))=some (r,s')->a'.defers=[]/\∃v,(results fn a'.tmps).run P w'=.ok v w'/\∃v',Ending.returned v=.returned v'/\K v' w':=fun h=>by
            cases hfi:Ci P fn sf with
            | none=>simp[hfi] at h
            | some x =>
              simp only[hfi,aAo,aAk,Prod.mk.injEq] at h;obtain⟨rfl,rfl⟩:=h
              obtain⟨v,hv,hr⟩:=GL S' hfi
              refine⟨S'.defers,v,hv,v,rfl,hK oK w' v ?_ hr⟩
              exact⟨fun t=>S'.Qg.1 _ _ (.inr ⟨t,rfl,rfl⟩),fun s g e he=>S'.sS s g e he,fun s g s2 g' e e' b he zX=>S'.inj s g s2 g' e e' b he zX,S'.ext,S.size,S.defers,⟨fun x v h=>S'.Qg.1 x v (.inl h),S'.Qg.2.1,S'.Qg.2.2⟩⟩
           cases ex with
           | normal=>exact fin h
           | ret=>exact fin h
           | exit id=>cases h
      ·cases h
theorem aCf (hm:P.follows .mixedOrders=true) (hx:JX P) (n:Nat):pE P (Nj P n):=(J9 hm hx n).1
end
end Go.Ab
end
section
namespace Go.Ab
open Classical
variable [Ext]
def kU {α:Type} (g:Nat->Option α):Option α:=if h:∃n r,g n=some r then some (Classical.choose (Classical.choose_spec h)) else none
theorem Zm {α:Type} {g:Nat->Option α} (hm:∀n r,g n=some r->g (n+1)=some r) {n m:Nat} (h:n<=m) {r:α} (hr:g n=some r):g m=some r:=by
 induction m with
 | zero=>have:n=0:=by omega
         subst this;exact hr
 | succ m ih =>
   rcases Nat.lt_or_ge m n with h'|h'
   ·have:n=m+1:=by omega
    subst this;exact hr
   ·exact hm m r (ih h')
theorem NC {α:Type} {g:Nat->Option α} (hm:∀n r,g n=some r->g (n+1)=some r) (r:α):kU g=some r↔∃n,g n=some r:=by
 unfold kU;constructor
 ·intro h;split at h
  ·rename_i hh;simp only[aAk] at h;exact⟨Classical.choose hh,by rw[<- h];exact Classical.choose_spec (Classical.choose_spec hh)⟩
  ·cases h
 ·rintro⟨n,hn⟩
  have hh:∃n r,g n=some r:=⟨n,r,hn⟩
  rw[dif_pos hh];have h2:=Classical.choose_spec (Classical.choose_spec hh)
  congr 1
  rcases Nat.le_total n (Classical.choose hh) with hle|hle
  ·have:=Zm hm hle hn
   rw[h2] at this;exact Option.some.inj this
  ·have:=Zm hm hle h2
   rw[hn] at this;exact (Option.some.inj this).symm
theorem fN {α β:Type} {x:Option α} {f:α->Option β} {r:β}:cT x f=some r↔∃a,x=some a/\f a=some r:=by
 cases x<;>simp[cT]
def DG (i i':Nat->List AV->St->Option (AV × St)):Prop:=∀g xs st r,i g xs st=some r->i' g xs st=some r
def vJ (c c':Nat->List AV->Option AV):Prop:=∀g xs r,c g xs=some r->c' g xs=some r
section
variable (P:Program) {c c':Nat->List AV->Option AV} {i i':Nat->List AV->St->Option (AV × St)} {bi:Bool}
theorem DH {α β:Type} {x y:Option α} {f:α->Option β} {r:β} (h:∀a,x=some a->y=some a) (hx:cT x f=some r):cT y f=some r:=by
 cases Lp:x with
 | none=>simp[Lp,cT] at hx
 | some a=>rw[h a Lp];rw[Lp] at hx;exact hx
theorem yK (h:vJ c c') {g:Nat} {args:List AV} {st:St} {dst:Option Nat} {e:qZ} (he:bH c g args st dst=some e):bH c' g args st dst=some e:=by
 unfold bH at *
 split at he
 ·rename_i hf;rw[if_pos hf];exact DH (h g args) he
 ·rename_i hf;rw[if_neg hf];split at he
  ·rename_i xs FW;exact DH (h g xs) he
  ·cases he
theorem UF (h:vJ c c') {g:Nat} {args:List AV} {st:St} {dst:Option Nat} {e:qZ} (he:lP c g args st dst=some e):lP c' g args st dst=some e:=by
 unfold lP at *
 split at he
 ·split at he
  ·rename_i e0 sz n cs hh;split at he
   ·rename_i hc;rename_i rest _;simp only[hh,if_pos hc];cases hr:c g (.uniq e0 sz n cs :: rest) with
    | none=>simp[hr] at he
    | some r=>rw[h _ _ _ hr];rw[hr] at he;exact he
   ·cases he
  ·cases he
 ·split at he
  ·rename_i hc;rw[if_pos hc];exact yK h he
  ·cases he
theorem ND (h:vJ c c') {g:Nat} {args:List AV} {st:St} {dst:Option Nat} {e:qZ} (he:fJ c g args st dst=some e):fJ c' g args st dst=some e:=by
 unfold fJ at *
 split at he
 ·rename_i s k hk;split at he
  ·rename_i pJ;rw[if_pos pJ];split at he
   ·rename_i xs FW;exact DH (h g xs) he
   ·cases he
  ·cases he
 ·rename_i hk;exact yK h he
theorem UG (h:vJ c c') {g:Nat} {args:List AV} {st:St} {dst:Option Nat} {e:qZ} (he:uQ c g args st dst=some e):uQ c' g args st dst=some e:=by
 unfold uQ at *
 split at he
 ·split at he
  ·split at he
   ·rename_i hc;rw[if_pos hc];split at he
    ·rename_i r hr;rw[h _ _ _ hr];exact he
    ·cases he
   ·cases he
  ·cases he
 ·rename_i hn;split at he
  ·rename_i hc;rw[if_pos hc];exact yK h he
  ·cases he
theorem NF (h:vJ c c') {f:Operand} {args:List AV} {st:St} {dst:Option Nat} {e:qZ} (he:oQ c f args st dst=some e):oQ c' f args st dst=some e:=by
 cases f
 case func g =>
  simp only[oQ] at *
  by_cases hm:Ext.mv g=true
  ·rw[if_pos hm] at *
   exact UF h he
  ·rw[if_neg hm] at *
   by_cases hm2:Ext.eat g dst=true
   ·rw[if_pos hm2] at *
    exact ND h he
   ·rw[if_neg hm2] at *
    by_cases hm3:Ext.Z7 g dst=true
    ·rw[if_pos hm3] at *
     exact UG h he
    ·rw[if_neg hm3] at *
     exact yK h he
 all_goals
  simp only[oQ] at *
  split at he
  ·exact yK h he
  ·cases he
theorem w8 (h:vJ c c') {o:Oper} {st:St} {e:qZ} (he:dU P c o st=some e):dU P c' o st=some e:=by
 obtain⟨dst,op,type,pos,after,guard⟩:=o
 cases op
 case call cl =>
  simp only[dU] at *
  unfold iT at *
  split at he
  ·exact NF h he
  all_goals exact he
 case makeMap T r=>cases r<;>exact he
 all_goals exact he
theorem S8 (h:vJ c c') {ops:Array Oper} {o:Oper} {st s:St} (he:cI P c ops o st=some s):cI P c' ops o st=some s:=by
 unfold cI at *
 split at he
 ·split at he
  ·rename_i b hg hb;rw[if_pos hb];cases h1:dU P c o st with
   | none=>simp[h1] at he
   | some e=>rw[w8 P h h1];rw[h1] at he;exact he
  ·rename_i b hg hb;rw[if_neg hb];exact he
 ·cases he
theorem DI (h:vJ c c') (hi:DG i i') {ops:Array Oper} {o:Oper} {st s:St} (he:gT P bi c i ops o st=some s):gT P bi c' i' ops o st=some s:=by
 unfold gT at he ⊢
 cases hg:(if bi=true then Hs o else none) with
 | none =>
   simp only[hg] at he ⊢;exact S8 P h he
 | some ga =>
   obtain⟨g,args⟩:=ga
   simp only[hg] at he ⊢;cases hgv:gv ops st o.guard with
   | none=>simp[hgv] at he
   | some t =>
     simp only[hgv] at he ⊢;cases t with
     | false=>exact he
     | true =>
       simp only[if_true] at he ⊢;cases h1:i g (args.map st.ev) st with
       | none=>simp[h1] at he
       | some r=>rw[hi _ _ _ _ h1];rw[h1] at he;exact he
theorem Db (h:vJ c c') (hi:DG i i') {ops:Array Oper}:∀(l:List Oper) {st s:St},mL P bi c i ops l st=some s->mL P bi c' i' ops l st=some s
 | [],st,s,he=>he
 | o :: l,st,s,he=>by
   simp only[mL] at *
   obtain⟨s1,h1,h2⟩:=fN.1 he
   exact fN.2 ⟨s1,DI P h hi h1,Db h hi l h2⟩
theorem nX (h:vJ c c') (hi:DG i i'):∀(n m:Nat),n<=m->∀(x:Code) (st:St) (r:Ex × St),uN P bi c i n x st=some r->uN P bi c' i' m x st=some r
 | 0,_,_,_,_,_,he=>by simp[uN] at he
 | n+1,0,hle,_,_,_,_=>by omega
 | n+1,m+1,hle,x,st,r,he=>by
   have ih:=nX h hi n m (by omega)
   cases x<;>simp only[uN] at he ⊢<;>(try exact he)
   case region id ops draw =>
    obtain⟨s1,h1,h2⟩:=fN.1 he
    exact fN.2 ⟨s1,Db P h hi _ h1,h2⟩
   case seq a b =>
    obtain⟨⟨e1,s1⟩,h1,h2⟩:=fN.1 he
    refine fN.2 ⟨(e1,s1),ih _ _ _ h1, ?_⟩
    cases e1 with
    | normal=>exact ih _ _ _ h2
    | _=>exact h2
   case cond cc a b =>
    split at he
    ·split at he
     ·rename_i hb;rw[if_pos hb];exact ih _ _ _ he
     ·rename_i hb;rw[if_neg hb];exact ih _ _ _ he
    ·cases he
   case block id b =>
    obtain⟨r1,h1,h2⟩:=fN.1 he
    exact fN.2 ⟨r1,ih _ _ _ h1,h2⟩
   case loop b =>
    obtain⟨⟨e1,s1⟩,h1,h2⟩:=fN.1 he
    refine fN.2 ⟨(e1,s1),ih _ _ _ h1, ?_⟩
    cases e1 with
    | normal=>exact ih _ _ _ h2
    | _=>exact h2
theorem Vo:∀n,vJ (Nj P n) (Nj P (n+1))/\DG (Yz P n) (Yz P (n+1))
 | 0=>⟨fun g xs r h=>by
   rw[Zv] at h;rw[An,h],fun g xs st r h=>by cases h⟩
 | n+1=>by
   obtain⟨ih,ii⟩:=Vo n
   refine⟨fun g xs r h=>?_,fun g xs st r h=>?_⟩
   ·rw[An] at h ⊢;cases he:Ext.ext g xs with
    | some r'=>rw[he] at h;exact h
    | none =>
      simp only[he] at h;simp only
      cases hq:sX xs with
      | some u =>
        simp only[hq] at h;simp only
        unfold runM at h ⊢
        split at h
        ·split at h
         ·rename_i pJ;rw[if_pos pJ];split at h
          ·obtain⟨r1,h1,h2⟩:=fN.1 h
           exact fN.2 ⟨r1,nX P ih ii n (n+1) (by omega) _ _ _ h1,h2⟩
          ·cases h
         ·cases h
        ·cases h
      | none =>
        simp only[hq] at h;simp only
        cases hql:uR xs with
        | some u =>
          simp only[hql] at h;simp only
          unfold PQ at h ⊢
          split at h
          ·split at h
           ·rename_i pJ;rw[if_pos pJ];split at h
            ·obtain⟨r1,h1,h2⟩:=fN.1 h
             exact fN.2 ⟨r1,nX P ih ii n (n+1) (by omega) _ _ _ h1,h2⟩
            ·cases h
           ·cases h
          ·cases h
        | none =>
        simp only[hql] at h;simp only
        by_cases hu:xs.any qR=true
        ·rw[if_pos hu] at h;cases h
        ·rw[if_neg hu] at h ⊢;unfold L6 at h ⊢
         split at h
         ·split at h
          ·rename_i pJ;rw[if_pos pJ];split at h
           ·obtain⟨r1,h1,h2⟩:=fN.1 h
            exact fN.2 ⟨r1,nX P ih ii n (n+1) (by omega) _ _ _ h1,h2⟩
           ·cases h
          ·cases h
         ·cases h
   ·rw[Qo] at h ⊢;split at h
    ·exact h
    unfold L7 at h ⊢
    split at h
    ·split at h
     ·rename_i pJ;rw[if_pos pJ];split at h
      ·obtain⟨r1,h1,h2⟩:=fN.1 h
       exact fN.2 ⟨r1,nX P ih ii n (n+1) (by omega) _ _ _ h1,h2⟩
      ·cases h
     ·cases h
    ·cases h
theorem DJ (n:Nat):vJ (Nj P n) (Nj P (n+1)):=(Vo P n).1
theorem DK (n:Nat):DG (Yz P n) (Yz P (n+1)):=(Vo P n).2
theorem Dy {n m:Nat} (h:n<=m):vJ (Nj P n) (Nj P m):=fun g xs r hr =>
 Zm (g:=fun n=>Nj P n g xs) (fun n r=>DJ P n g xs r) h hr
theorem Dz {n m:Nat} (h:n<=m):DG (Yz P n) (Yz P m):=fun g xs st r hr =>
 Zm (g:=fun n=>Yz P n g xs st) (fun n r=>DK P n g xs st r) h hr
def aG (f:Nat) (xs:List AV):Option AV:=kU fun n=>Nj P n f xs
def qH (f:Nat) (xs:List AV) (st:St):Option (AV × St):=kU fun n=>Yz P n f xs st
def xZ (bi:Bool) (x:Code) (st:St):Option (Ex × St):=kU fun n=>uN P bi (Nj P n) (Yz P n) n x st
theorem uG {f:Nat} {xs:List AV} {r:AV}:aG P f xs=some r↔∃n,Nj P n f xs=some r:=NC (fun n r=>DJ P n f xs r) r
theorem DL {f:Nat} {xs:List AV} {st:St} {r:AV × St}:qH P f xs st=some r↔∃n,Yz P n f xs st=some r:=NC (fun n r=>DK P n f xs st r) r
theorem gQ {x:Code} {st:St} {r:Ex × St}:xZ P bi x st=some r↔∃n m,uN P bi (Nj P n) (Yz P n) m x st=some r:=by
 unfold xZ;rw[NC (fun n r=>nX P (DJ P n) (DK P n) n (n+1) (by omega) x st r)]
 constructor
 ·rintro⟨n,h⟩;exact⟨n,n,h⟩
 ·rintro⟨n,m,h⟩
  exact⟨max n m,nX P (Dy P (Nat.le_max_left n m)) (Dz P (Nat.le_max_left n m)) m _ (Nat.le_max_right n m) x st r h⟩
theorem CJ (hm:P.follows .mixedOrders=true) (hx:JX P) {f:Nat} {xs:List AV} {r:AV} (h:aG P f xs=some r):Bj P f xs r:=by
 obtain⟨n,hn⟩:=(uG P).1 h
 exact (aCf hm hx n f xs r hn).2
theorem aE6 (n:Nat):DG (Yz P n) (qH P):=fun g xs st r h=>(DL P).2 ⟨n,h⟩
theorem aCg (n:Nat):vJ (Nj P n) (aG P):=fun g xs r h=>(uG P).2 ⟨n,h⟩
theorem NG {β:Type} {g:Nat} {xs:List AV} {f:AV->Option β} {r:β} (h:cT (aG P g xs) f=some r):∃n,cT (Nj P n g xs) f=some r:=by
 obtain⟨a,h1,h2⟩:=fN.1 h
 obtain⟨n,hn⟩:=(uG P).1 h1
 exact⟨n,fN.2 ⟨a,hn,h2⟩⟩
theorem Bn {g:Nat} {args:List AV} {st:St} {dst:Option Nat} {e:qZ} (h:bH (aG P) g args st dst=some e):∃n,bH (Nj P n) g args st dst=some e:=by
 unfold bH at h ⊢
 split at h
 ·rename_i hf;obtain⟨n,hn⟩:=NG P h
  exact⟨n,by rw[if_pos hf];exact hn⟩
 ·rename_i hf;split at h
  ·rename_i xs FW;obtain⟨n,hn⟩:=NG P h
   exact⟨n,by rw[if_neg hf];exact hn⟩
  ·cases h
theorem y7 {g:Nat} {args:List AV} {st:St} {dst:Option Nat} {e:qZ} (h:lP (aG P) g args st dst=some e):∃n,lP (Nj P n) g args st dst=some e:=by
 unfold lP at h ⊢
 split at h
 ·rename_i s k rest;split at h
  ·rename_i e0 sz n cs hh;split at h
   ·rename_i hc;simp only[hh,if_pos hc];cases hr:aG P g (.uniq e0 sz n cs :: rest) with
    | none=>simp[hr] at h
    | some r =>
      obtain⟨m,hm⟩:=(uG P).1 hr
      exact⟨m,by rw[hm];rw[hr] at h;exact h⟩
   ·cases h
  ·cases h
 ·split at h
  ·rename_i hc;simp only[if_pos hc];exact Bn P h
  ·cases h
theorem UH {g:Nat} {args:List AV} {st:St} {dst:Option Nat} {e:qZ} (h:fJ (aG P) g args st dst=some e):∃n,fJ (Nj P n) g args st dst=some e:=by
 unfold fJ at h ⊢
 split at h
 ·rename_i s k hk;split at h
  ·rename_i pJ;simp only[if_pos pJ];split at h
   ·rename_i xs FW;exact NG P h
   ·cases h
  ·cases h
 ·rename_i hk;obtain⟨n,hn⟩:=Bn P h
  exact⟨n,hn⟩
theorem y8 {g:Nat} {args:List AV} {st:St} {dst:Option Nat} {e:qZ} (h:uQ (aG P) g args st dst=some e):∃n,uQ (Nj P n) g args st dst=some e:=by
 unfold uQ at h ⊢
 split at h
 ·split at h
  ·split at h
   ·rename_i hc;split at h
    ·rename_i r hr;obtain⟨n,hn⟩:=(uG P).1 hr
     exact⟨n,by rw[if_pos hc,hn];exact h⟩
    ·cases h
   ·cases h
  ·cases h
 ·split at h
  ·rename_i hc;obtain⟨n,hn⟩:=Bn P h
   exact⟨n,by rw[if_pos hc];exact hn⟩
  ·cases h
theorem S9 {o:Oper} {st:St} {e:qZ} (h:dU P (aG P) o st=some e):∃n,dU P (Nj P n) o st=some e:=by
 obtain⟨dst,op,type,pos,after,guard⟩:=o
 cases op
 case call cl =>
  simp only[dU] at *
  unfold iT at *
  split at h
  ·unfold oQ at h ⊢
   split at h
   ·split at h
    ·rename_i hm;obtain⟨n,hn⟩:=y7 P h
     exact⟨n,by simp only[hm,if_true];exact hn⟩
    ·rename_i hm;split at h
     ·rename_i hm2;obtain⟨n,hn⟩:=UH P h
      exact⟨n,by rw[if_neg hm,if_pos hm2];exact hn⟩
     ·rename_i hm2;split at h
      ·rename_i hm3;obtain⟨n,hn⟩:=y8 P h
       exact⟨n,by rw[if_neg hm,if_neg hm2,if_pos hm3];exact hn⟩
      ·rename_i hm3;obtain⟨n,hn⟩:=Bn P h
       exact⟨n,by rw[if_neg hm,if_neg hm2,if_neg hm3];exact hn⟩
   ·split at h
    ·exact Bn P h
    ·cases h
  all_goals exact⟨0,h⟩
 case makeMap T r=>cases r<;>exact⟨0,h⟩
 all_goals exact⟨0,h⟩
theorem aCh {ops:Array Oper} {o:Oper} {st s:St} (h:cI P (aG P) ops o st=some s):∃n,cI P (Nj P n) ops o st=some s:=by
 unfold cI at *
 split at h
 ·split at h
  ·rename_i b hg hb;cases h1:dU P (aG P) o st with
   | none=>simp[h1] at h
   | some e =>
     obtain⟨n,hn⟩:=S9 P h1
     refine⟨n, ?_⟩
     rw[if_pos hb,hn];rw[h1] at h;exact h
  ·rename_i b hg hb;exact⟨0,by rw[if_neg hb];exact h⟩
 ·cases h
theorem T3 {ops:Array Oper} {o:Oper} {st s:St} (h:gT P bi (aG P) (qH P) ops o st=some s):∃n,gT P bi (Nj P n) (Yz P n) ops o st=some s:=by
 unfold gT at h ⊢
 cases hg:(if bi=true then Hs o else none) with
 | none =>
   simp only[hg] at h ⊢;exact aCh P h
 | some ga =>
   obtain⟨g,args⟩:=ga
   simp only[hg] at h ⊢;cases hgv:gv ops st o.guard with
   | none=>simp[hgv] at h
   | some t =>
     simp only[hgv] at h ⊢;cases t with
     | false=>exact⟨0,h⟩
     | true =>
       simp only[if_true] at h ⊢;cases h1:qH P g (args.map st.ev) st with
       | none=>simp[h1] at h
       | some r =>
         obtain⟨n,hn⟩:=(DL P).1 h1
         refine⟨n, ?_⟩
         rw[h1] at h;rw[hn];exact h
theorem DM {ops:Array Oper}:∀(l:List Oper) {st s:St},mL P bi (aG P) (qH P) ops l st=some s->∃n,mL P bi (Nj P n) (Yz P n) ops l st=some s
 | [],st,s,h=>⟨0,h⟩
 | o :: l,st,s,h=>by
   simp only[mL] at *
   obtain⟨s1,h1,h2⟩:=fN.1 h
   obtain⟨n,hn⟩:=T3 P h1
   obtain⟨m,hm⟩:=DM l h2
   exact⟨max n m,fN.2 ⟨s1,DI P (Dy P (Nat.le_max_left n m)) (Dz P (Nat.le_max_left n m)) hn,Db P (Dy P (Nat.le_max_right n m)) (Dz P (Nat.le_max_right n m)) l hm⟩⟩
theorem Sp {cc:Nat->List AV->Option AV} {ii:Nat->List AV->St->Option (AV × St)} {ops:Array Oper}:∀(l:List Oper) (st:St),mL P false cc ii ops l st=Qk P cc ops l st
 | [],st=>rfl
 | o :: l,st=>by
   have e:∀s,gT P false cc ii ops o s=cI P cc ops o s:=fun s=>rfl
   unfold mL Qk;rw[e];congr 1
   funext s
   exact Sp l s
theorem UI (st:St):xZ P bi .skip st=some (.normal,st):=(gQ P).2 ⟨0,1,rfl⟩
theorem UJ (id:Nat) (st:St):xZ P bi (.exit id) st=some (.exit id,st):=(gQ P).2 ⟨0,1,rfl⟩
theorem K0 (st:St):xZ P bi .ret st=some (.ret,st):=(gQ P).2 ⟨0,1,rfl⟩
theorem DN (id:Nat) (ops:Array Oper) (d:Bool) (st:St):xZ P bi (.region id ops d) st=cT (mL P bi (aG P) (qH P) ops ops.toList st) fun s=>if bi=true/\¬qU ops s (Ext.dyn id ops.size (sW ops)) then none else some (.normal,s):=by
 apply Option.ext
 intro r;rw[gQ,fN];constructor
 ·rintro⟨n,m,h⟩
  cases m with
  | zero=>simp[uN] at h
  | succ m =>
    simp only[uN] at h;obtain⟨s1,h1,h2⟩:=fN.1 h
    exact⟨s1,Db P (aCg P n) (aE6 P n) _ h1,h2⟩
 ·rintro⟨s1,h1,h2⟩
  obtain⟨n,hn⟩:=DM P _ h1
  exact⟨n,1,by simp only[uN];exact fN.2 ⟨s1,hn,h2⟩⟩
def DO (r:Ex × St) (k:St->Option (Ex × St)):Option (Ex × St) :=
 match r.1 with
 | .normal=>k r.2
 | e=>some (e,r.2)
theorem LR (a b:Code) (st:St):xZ P bi (.seq a b) st=cT (xZ P bi a st) fun r=>DO r (xZ P bi b):=by
 apply Option.ext
 intro r;rw[gQ,fN];constructor
 ·rintro⟨n,m,h⟩
  cases m with
  | zero=>simp[uN] at h
  | succ m =>
    simp only[uN] at h;obtain⟨⟨e1,s1⟩,h1,h2⟩:=fN.1 h
    refine⟨(e1,s1),(gQ P).2 ⟨n,m,h1⟩, ?_⟩
    cases e1 with
    | normal=>exact (gQ P).2 ⟨n,m,h2⟩
    | _=>exact h2
 ·rintro⟨⟨e1,s1⟩,h1,h2⟩
  obtain⟨n1,m1,h1⟩:=(gQ P).1 h1
  cases e1 with
  | normal =>
    obtain⟨n2,m2,h2⟩:=(gQ P).1 h2
    refine⟨max n1 n2,max m1 m2+1, ?_⟩
    simp only[uN];exact fN.2 ⟨(.normal,s1),nX P (Dy P (Nat.le_max_left _ _)) (Dz P (Nat.le_max_left _ _)) _ _ (Nat.le_max_left _ _) _ _ _ h1,nX P (Dy P (Nat.le_max_right _ _)) (Dz P (Nat.le_max_right _ _)) _ _ (Nat.le_max_right _ _) _ _ _ h2⟩
  | exit id=>exact⟨n1,m1+1,by simp only[uN];exact fN.2 ⟨(.exit id,s1),h1,h2⟩⟩
  | ret=>exact⟨n1,m1+1,by simp only[uN];exact fN.2 ⟨(.ret,s1),h1,h2⟩⟩
theorem UK (b:Code) (st:St):xZ P bi (.loop b) st=cT (xZ P bi b st) fun r=>DO r (xZ P bi (.loop b)):=by
 apply Option.ext
 intro r;rw[gQ,fN];constructor
 ·rintro⟨n,m,h⟩
  cases m with
  | zero=>simp[uN] at h
  | succ m =>
    simp only[uN] at h;obtain⟨⟨e1,s1⟩,h1,h2⟩:=fN.1 h
    refine⟨(e1,s1),(gQ P).2 ⟨n,m,h1⟩, ?_⟩
    cases e1 with
    | normal=>exact (gQ P).2 ⟨n,m,h2⟩
    | _=>exact h2
 ·rintro⟨⟨e1,s1⟩,h1,h2⟩
  obtain⟨n1,m1,h1⟩:=(gQ P).1 h1
  cases e1 with
  | normal =>
    obtain⟨n2,m2,h2⟩:=(gQ P).1 h2
    refine⟨max n1 n2,max m1 m2+1, ?_⟩
    simp only[uN];exact fN.2 ⟨(.normal,s1),nX P (Dy P (Nat.le_max_left _ _)) (Dz P (Nat.le_max_left _ _)) _ _ (Nat.le_max_left _ _) _ _ _ h1,nX P (Dy P (Nat.le_max_right _ _)) (Dz P (Nat.le_max_right _ _)) _ _ (Nat.le_max_right _ _) _ _ _ h2⟩
  | exit id=>exact⟨n1,m1+1,by simp only[uN];exact fN.2 ⟨(.exit id,s1),h1,h2⟩⟩
  | ret=>exact⟨n1,m1+1,by simp only[uN];exact fN.2 ⟨(.ret,s1),h1,h2⟩⟩
theorem KH (id:Nat) (b:Code) (st:St):xZ P bi (.block id b) st=cT (xZ P bi b st) fun r=>some (r.1.inBlock id,r.2):=by
 apply Option.ext
 intro r;rw[gQ,fN];constructor
 ·rintro⟨n,m,h⟩
  cases m with
  | zero=>simp[uN] at h
  | succ m =>
    simp only[uN] at h;obtain⟨r1,h1,h2⟩:=fN.1 h
    exact⟨r1,(gQ P).2 ⟨n,m,h1⟩,h2⟩
 ·rintro⟨r1,h1,h2⟩
  obtain⟨n1,m1,h1⟩:=(gQ P).1 h1
  exact⟨n1,m1+1,by simp only[uN];exact fN.2 ⟨r1,h1,h2⟩⟩
theorem UL (c:Operand) (a b:Code) (st:St) {t:Bool} (hc:st.ev c=.v (.bool t)):xZ P bi (.cond c a b) st=if t=true then xZ P bi a st else xZ P bi b st:=by
 apply Option.ext
 intro r;rw[gQ];constructor
 ·rintro⟨n,m,h⟩
  cases m with
  | zero=>simp[uN] at h
  | succ m =>
    simp only[uN,hc] at h;split at h
    ·rename_i hb;rw[if_pos hb];exact (gQ P).2 ⟨n,m,h⟩
    ·rename_i hb;rw[if_neg hb];exact (gQ P).2 ⟨n,m,h⟩
 ·intro h;split at h
  ·rename_i hb;obtain⟨n,m,h⟩:=(gQ P).1 h
   exact⟨n,m+1,by simp only[uN,hc];rw[if_pos hb];exact h⟩
  ·rename_i hb;obtain⟨n,m,h⟩:=(gQ P).1 h
   exact⟨n,m+1,by simp only[uN,hc];rw[if_neg hb];exact h⟩
def Bx (x:Code) (st:St):Option (Ex × St):=xZ P false x st
theorem K1 {x:Code} {st:St} {r:Ex × St}:Bx P x st=some r↔∃n m,uN P false (Nj P n) (Yz P n) m x st=some r:=gQ P
theorem Fo (st:St):Bx P .skip st=some (.normal,st):=UI P st
theorem Fp (id:Nat) (st:St):Bx P (.exit id) st=some (.exit id,st):=UJ P id st
theorem Lx (st:St):Bx P .ret st=some (.ret,st):=K0 P st
theorem wV (id:Nat) (ops:Array Oper) (d:Bool) (st:St):Bx P (.region id ops d) st=cT (Qk P (aG P) ops ops.toList st) fun s=>some (.normal,s):=by
 rw[<- Sp P (ii:=qH P)];have h:=DN P (bi:=false) id ops d st
 simp only[Bool.false_eq_true,false_and,if_false] at h;exact h
theorem Ly (a b:Code) (st:St):Bx P (.seq a b) st=cT (Bx P a st) fun r=>DO r (Bx P b):=LR P a b st
theorem Jd (b:Code) (st:St):Bx P (.loop b) st=cT (Bx P b st) fun r=>DO r (Bx P (.loop b)):=UK P b st
theorem Ae (id:Nat) (b:Code) (st:St):Bx P (.block id b) st=cT (Bx P b st) fun r=>some (r.1.inBlock id,r.2):=KH P id b st
theorem aCi (c:Operand) (a b:Code) (st:St) {t:Bool} (hc:st.ev c=.v (.bool t)):Bx P (.cond c a b) st=if t=true then Bx P a st else Bx P b st:=UL P c a b st hc
def Dn (f:Nat) (fn:Func) (r:Ex × St):Option AV :=
 match r.1 with
 | .exit _=>none
 | _=>jD P f fn r.2
def Fa (fn:Func):Bool:=Ua fn && (match fn.body with|some c=>!mW c|none=>true)
theorem Nu {xs:List AV} (h:xs.any qR=false):sX xs=none:=by
 cases xs with
 | nil=>rfl
 | cons x xs =>
   cases x<;>first|rfl|simp[qR] at h
theorem Nv {xs:List AV} (h:xs.any qR=false):uR xs=none:=by
 unfold uR;split
 ·simp[qR] at h
 ·rfl
def aAX (fn:Func) (r:Ex × St):Option AV :=
 match r.1 with
 | .exit _=>none
 | _=>Lf P fn r.2
theorem RO {f:Nat} {fn:Func} {c:Code} (hf:P.funcs[f]? = some fn) (hb:fn.body=some c) (pJ:Ua fn=true) (e sz m:Nat) (cs xs:List AV) (hx:Ext.ext f (.uniq e sz m cs :: xs)=none) :
 aG P f (.uniq e sz m cs :: xs)=cT (xZ P (mW c) c (St.tU e sz m cs xs)) (aAX P fn):=by
 apply Option.ext
 intro r;rw[uG,fN];have hq:sX (.uniq e sz m cs :: xs)=some (e,sz,m,cs,xs):=rfl
 constructor
 ·rintro⟨n,h⟩
  cases n with
  | zero=>rw[Zv,hx] at h;cases h
  | succ n =>
    simp only[An,hx,hq,runM,hf,pJ,hb,if_true] at h;obtain⟨r1,h1,h2⟩:=fN.1 h
    exact⟨r1,(gQ P).2 ⟨n,n,h1⟩,h2⟩
 ·rintro⟨r1,h1,h2⟩
  obtain⟨n,m',h1⟩:=(gQ P).1 h1
  refine⟨max n m'+1, ?_⟩
  simp only[An,hx,hq,runM,hf,pJ,hb,if_true];exact fN.2 ⟨r1,nX P (Dy P (Nat.le_max_left _ _)) (Dz P (Nat.le_max_left _ _)) _ _ (Nat.le_max_right _ _) _ _ _ h1,h2⟩
theorem UM {f:Nat} {fn:Func} {c:Code} (hf:P.funcs[f]? = some fn) (hb:fn.body=some c) (pJ:Ua fn=true) (xs:List AV) (hx:Ext.ext f xs=none) (hu:xs.any qR=false):aG P f xs=cT (xZ P (mW c) c (St.init xs)) (Dn P f fn):=by
 apply Option.ext
 intro r;rw[uG,fN];constructor
 ·rintro⟨n,h⟩
  cases n with
  | zero=>rw[Zv,hx] at h;cases h
  | succ n =>
    simp only[An,hx,Nu hu,Nv hu,hu,L6,hf,pJ,hb,if_true] at h;obtain⟨r1,h1,h2⟩:=fN.1 h
    exact⟨r1,(gQ P).2 ⟨n,n,h1⟩,h2⟩
 ·rintro⟨r1,h1,h2⟩
  obtain⟨n,m,h1⟩:=(gQ P).1 h1
  refine⟨max n m+1, ?_⟩
  simp only[An,hx,Nu hu,Nv hu,hu,L6,hf,pJ,hb,if_true];exact fN.2 ⟨r1,nX P (Dy P (Nat.le_max_left _ _)) (Dz P (Nat.le_max_left _ _)) _ _ (Nat.le_max_right _ _) _ _ _ h1,h2⟩
theorem Rt {f:Nat} {fn:Func} {c:Code} (hf:P.funcs[f]? = some fn) (hb:fn.body=some c) (pJ:Fa fn=true) (xs:List AV) (hx:Ext.ext f xs=none) (hu:xs.any qR=false):aG P f xs=cT (Bx P c (St.init xs)) (Dn P f fn):=by
 simp only[Fa,hb,Bool.and_eq_true,Bool.not_eq_true'] at pJ;rw[UM P hf hb pJ.1 xs hx hu,pJ.2];rfl
def aIW (fn:Func) (r:Ex × St):Option (AV × St) :=
 match r.1 with
 | .exit _=>none
 | _=>(Ci P fn r.2).map fun x=>(x,r.2)
theorem Cx {f:Nat} {fn:Func} {c:Code} (hf:P.funcs[f]? = some fn) (hb:fn.body=some c) (pJ:Zu true fn=true) (xs:List AV) (st:St) (hx:Ext.Z9 f xs st=none:=by rfl):qH P f xs st=cT (xZ P true c ((St.init xs).back st)) (aIW P fn):=by
 apply Option.ext
 intro r;rw[DL,fN];constructor
 ·rintro⟨n,h⟩
  cases n with
  | zero=>rw[aAc] at h;cases h
  | succ n =>
    simp only[Qo,hx,L7,hf,pJ,hb,if_true] at h;obtain⟨r1,h1,h2⟩:=fN.1 h
    exact⟨r1,(gQ P).2 ⟨n,n,h1⟩,h2⟩
 ·rintro⟨r1,h1,h2⟩
  obtain⟨n,m,h1⟩:=(gQ P).1 h1
  refine⟨max n m+1, ?_⟩
  simp only[Qo,hx,L7,hf,pJ,hb,if_true];exact fN.2 ⟨r1,nX P (Dy P (Nat.le_max_left _ _)) (Dz P (Nat.le_max_left _ _)) _ _ (Nat.le_max_right _ _) _ _ _ h1,h2⟩
end
end Go.Ab
end
