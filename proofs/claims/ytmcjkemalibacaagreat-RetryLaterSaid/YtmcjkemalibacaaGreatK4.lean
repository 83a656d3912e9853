/-
  Part 4 of the proof: an evaluator of programs, its soundness, and what functions of this program compute.
-/
import Derived.Test.YtmcjkemalibacaaGreatK3
set_option linter.all false
set_option maxRecDepth 20000
set_option maxHeartbeats 40000000
section
namespace Go.Ab
open Classical
variable [Ext]
def CI (ops:Array Oper) (acc:Array Nat):Prop :=
 ∀j o,j<acc.size->ops[j]? = some o->∀k,(acc.getD j 0).testBit k=true->∃e∈o.after,Region.binds .any e=true/\(e.on=k\/(acc.getD e.on 0).testBit k=true)
theorem JD (acc:Array Nat) (k:Nat):∀(l:List Edge) (s:Nat),(l.foldl (fun s e=>if Region.binds .any e=true then s ||| 2 ^ e.on ||| acc.getD e.on 0 else s) s).testBit k=true ->
 s.testBit k=true\/∃e∈l,Region.binds .any e=true/\(e.on=k\/(acc.getD e.on 0).testBit k=true)
 | [],s,h=>.inl h
 | e :: l,s,h=>by
   simp only[List.foldl_cons] at h;rcases JD acc k l _ h with h|⟨e',zD,h⟩
   ·split at h
    ·rename_i hb;simp only[Nat.testBit_or,Bool.or_eq_true] at h;rcases h with (h|h)|h
     ·exact .inl h
     ·rw[Nat.testBit_two_pow] at h;exact .inr ⟨e,by simp,hb,.inl (by simpa using h)⟩
     ·exact .inr ⟨e,by simp,hb,.inr h⟩
    ·exact .inl h
   ·exact .inr ⟨e',by simp[zD],h⟩
theorem JE {α:Type} (n:Nat) (k:Nat->α):forced n k=k n:=by cases n<;>rfl
theorem CJ (ops:Array Oper):∀(l:List Oper) (acc:Array Nat),(∀i o,l[i]? = some o->ops[acc.size+i]? = some o)->CI ops acc->CI ops (HG l acc)
 | [],acc,_,h=>h
 | o :: l,acc,hl,h=>by
   unfold HG;rw[JE];refine CJ ops l _ (fun i o' ho'=>?_) ?_
   ·have:=hl (i+1) o' (by simpa using ho')
    simp only[Array.size_push];rw[<- this];congr 1
    omega
   ·intro j oj hj hoj k hk;have pY:∀x,(acc.getD x 0).testBit k=true->((acc.push (WO acc o)).getD x 0).testBit k=true:=fun x hx=>by
     have aZ:x<acc.size:=by
      rcases Nat.lt_or_ge x acc.size with h'|h'
      ·exact h'
      ·simp[Array.getElem?_eq_none h'] at hx
     simp only[Array.getD_eq_getD_getElem?,Array.getElem?_push_lt aZ] at hx ⊢;simpa [aZ] using hx
    rcases Nat.lt_or_ge j acc.size with aZ|hge
    ·have YU:(acc.getD j 0).testBit k=true:=by
      simp only[Array.getD_eq_getD_getElem?,Array.getElem?_push_lt aZ] at hk ⊢;simpa [aZ] using hk
     obtain⟨e,he,hb,hor⟩:=h j oj aZ hoj k YU
     exact⟨e,he,hb,hor.imp id (pY _)⟩
    ·have hje:j=acc.size:=by simp only[Array.size_push] at hj;omega
     subst hje;have ho:=hl 0 o (by simp)
     rw[Nat.add_zero,hoj] at ho;cases ho
     have YU:(WO acc o).testBit k=true:=by simpa using hk
     rcases JD acc k _ 0 YU with h0|⟨e,he,hb,hor⟩
     ·simp at h0
     ·exact⟨e,by simpa using he,hb,hor.imp id (pY _)⟩
theorem Rn {ops:Array Oper} {dy:List (Nat × Nat)} {b:Array Nat} {j:Nat} {oj:Oper}:∀(l:List Oper) (i0:Nat),Ps ops dy b j oj l i0=true->∀i oi,l[i]? = some oi->i0+i<j->(b.getD j 0).testBit (i0+i)=true\/(B0 oi=true/\B0 oj=true/\(tD ops oi oj=true\/((i0+i,j)∈dy/\JO ops b (i0+i) oi j oj=true)))
 | [],_,_,i,oi,h,_=>by simp at h
 | o :: l,i0,h,i,oi,ho,aZ=>by
   unfold Ps at h;simp only[Bool.and_eq_true,Bool.or_eq_true,decide_eq_true_eq] at h;cases i with
   | zero =>
     simp at ho
     subst ho;rcases h.1 with (h|h)|⟨⟨n1,n2⟩,h⟩
     ·omega
     ·exact .inl (by simpa using h)
     ·exact .inr ⟨n1,n2,h.imp id fun h=>⟨by simpa using h.1,by simpa using h.2⟩⟩
   | succ i =>
     have:=Rn l (i0+1) h.2 i oi (by simpa using ho) (by omega)
     rw[show i0+(i+1)=i0+1+i by omega]
     exact this
theorem Jq {ops:Array Oper} {dy:List (Nat × Nat)} {b:Array Nat}:∀(l:List Oper) (j0:Nat),JP ops dy b l j0=true->∀j oj,l[j]? = some oj ->
 (∀e∈oj.after,Region.binds .any e=true->e.on<j0+j)/\Ps ops dy b (j0+j) oj ops.toList 0=true
 | [],_,_,j,oj,h=>by simp at h
 | o :: l,j0,h,j,oj,ho=>by
   unfold JP at h;simp only[Bool.and_eq_true] at h;obtain⟨⟨h1,h2⟩,h3⟩:=h
   cases j with
   | zero =>
     simp at ho
     subst ho;refine⟨fun e he hb=>?_,by simpa using h2⟩
     have:=List.all_eq_true.1 h1 e (by simpa using he)
     simpa [hb] using this
   | succ j =>
     have:=Jq l (j0+1) h3 j oj (by simpa using ho)
     rw[show j0+(j+1)=j0+1+j by omega]
     exact this
structure Ej (ops:Array Oper) (dy:List (Nat × Nat)) (b:Array Nat):Prop where
 aPK:CI ops b
 size:b.size=ops.size
 lt:∀j oj,ops[j]? = some oj->∀e∈oj.after,Region.binds .any e=true->e.on<j
 apart:∀i j oi oj,i<j->ops[i]? = some oi->ops[j]? = some oj->(b.getD j 0).testBit i=true\/(B0 oi=true/\B0 oj=true/\(tD ops oi oj=true\/((i,j)∈dy/\JO ops b i oi j oj=true)))
theorem CK:∀(l:List Oper) (acc:Array Nat),(HG l acc).size=acc.size+l.length
 | [],acc=>rfl
 | o :: l,acc=>by
   unfold HG;rw[JE,CK l];simp
   omega
theorem SS {ops:Array Oper} {dy:List (Nat × Nat)} (h:Za ops dy=true):∃b,Ej ops dy b:=by
 unfold Za at h;refine⟨_,CJ ops ops.toList #[] (fun i o ho=>by simpa using ho) (fun j o hj=>by simp at hj),by rw[CK];simp,fun j oj hoj=>?_,fun i j oi oj hij hoi hoj=>?_⟩
 ·have:=(Jq _ 0 h j oj (by simpa using hoj)).1
  simpa using this
 ·have:=(Jq _ 0 h j oj (by simpa using hoj)).2
  simp only[Nat.zero_add] at this;have:=Rn _ 0 this i oi (by simpa using hoi) (by omega)
  simpa using this
section
variable {P:Program} {call:Nat->List AV->Option AV} {ops:Array Oper} {nt:Nat} {Q:Exit->Act->World->Prop}
theorem SU {h0:Nat->Obj->Prop} {w0:World} {F:Hx} {ρ:Nat->Nat->Value} {st:St} {a:Act} {w:World} (S:kM F h0 w0 nt ρ st a w) {o:Oper} {b:Bool} (h:gv ops st o.guard=some b):Region.wanted o (yielded ops a.tmps)=b:=by
 unfold gv at h;unfold Region.wanted;cases hg:o.guard with
 | none=>simp[hg] at h;subst h;rfl
 | some jw =>
   obtain⟨j,want⟩:=jw
   simp only[hg] at h;simp only
   cases hd:(ops[j]?).bind (·.dst) with
   | none =>
     simp[hd] at h
     subst h;simp[yielded,hd]
   | some d =>
     simp only[hd] at h;split at h
     ·rename_i x hx;have hr:=S.env d
      rw[hx] at hr;have hv:=iI hr
      rcases Nat.lt_or_ge d a.tmps.size with aZ|hge
      ·have hv':a.tmps[d]? = some x:=by
        simp[aZ] at hv ⊢
        exact hv
       simp only[yielded,hd,Option.bind_some,hv'];split at h
       ·simp only[Option.some.injEq] at h;rw[<- h];simp
       ·simp only[Option.some.injEq] at h;subst h;rename_i gI;cases x<;>first|rfl|exact absurd rfl (gI _)
      ·have hn:a.tmps[d]? = none:=Array.getElem?_eq_none hge
       have hu:x=undef:=by simpa [hn] using hv.symm
       subst hu;simp[undef] at h
       subst h;simp[yielded,hd,hn]
     ·cases h
theorem j9 {h0:Nat->Obj->Prop} {w0:World} {F:Hx} {ρ:Nat->Nat->Value} {st st':St} {a:Act} {w:World} {K:Act->World->Prop} (S:kM F h0 w0 nt ρ st a w) (iY:oP P call) {i:Nat} {o:Oper}
 (hi:ops[i]? = some o) (hd:∀d,o.dst=some d->d<nt) (h:cE P call ops o st=some st')
 (hK:∀nX a' w',kM F h0 w0 nt nX st' a' w'->K a' w'):wpOp P ops Q i K a w:=by
 unfold wpOp;simp only[hi];unfold cE at h;cases hg:gv ops st o.guard with
 | none=>simp[hg] at h
 | some b =>
   rw[SU S hg];simp only[hg] at h;cases b with
   | true =>
     simp only[if_true] at h ⊢;cases he:cZ P call o st with
     | none=>simp[he] at h
     | some e =>
       simp only[he,Option.map_some,Option.some.injEq] at h;subst h;exact .inl (Wh S iY he hd hK)
   | false =>
     simp only[Bool.false_eq_true,if_false,Option.some.injEq] at h ⊢;subst h;exact hK ρ _ w (S.put o.dst hd (.v _))
theorem MF {o:Oper} {a:Act} {w:World} {K:Act->World->Prop} (h:o.wp P a w K fun _ _ _=>False):∃a' w',K a' w':=by
 unfold Oper.wp at h;generalize (execOp a.eval o).run P w=r at h
 have hlet:¬LetsOut (fun _ _ _=>False):=by rintro⟨_,_,h⟩;exact h
 cases r with
 | ok n w' =>
   cases n<;>simp only[Oper.upon] at h<;>(try exact⟨_,_,h⟩)<;>(try exact h.elim)
   ·obtain⟨e,w2,fr,hR,_⟩:=h []
    cases e with
    | returned v=>exact⟨_,_,hR⟩
    | panicked c=>exact hR.elim
    | outgrown=>exact absurd hR hlet
   ·obtain⟨v,w2,hR,_⟩:=h default []
    exact⟨_,_,hR⟩
 | halt x w'=>cases x<;>simp only[Oper.upon] at h
def Valid (nt:Nat) (st:St):Prop:=∃(F:Hx) (h0:Nat->Obj->Prop) (w0:World) (ρ:Nat->Nat->Value) (a:Act) (w:World),kM F h0 w0 nt ρ st a w
theorem Valid.ids {st:St} (h:Valid nt st):∀t,mF st.aK (st.env t):=by
 obtain⟨F,h0,w0,ρ,a,w,S⟩:=h
 exact fun t=>⟨ctx h0 w0 ρ st w,_,rfl,S.env t⟩
theorem Valid.hp {st:St} (h:Valid nt st):CE st:=by
 obtain⟨F,h0,w0,ρ,a,w,S⟩:=h
 intro s g cs he c hc;obtain⟨_,_,b,arr,T,_,_,_,Bl⟩:=S.rT s g _ he
 obtain⟨i,hi,rfl⟩:=List.getElem_of_mem hc
 have hl:=Bl.len
 exact⟨ctx h0 w0 ρ st w,arr.toList[i]'(by omega),rfl,Bl.rel i _ _ (by simp[hi]) (by simp)⟩
theorem Valid.step {st st':St} (h:Valid nt st) (iY:oP P call) {o:Oper} (hd:∀d,o.dst=some d->d<nt) (he:cE P call ops o st=some st'):Valid nt st':=by
 obtain⟨F,h0,w0,ρ,a,w,S⟩:=h
 unfold cE at he;cases hg:gv ops st o.guard with
 | none=>simp[hg] at he
 | some b =>
   simp only[hg] at he;cases b with
   | true =>
     simp only[if_true] at he;cases hee:cZ P call o st with
     | none=>simp[hee] at he
     | some e =>
       simp only[hee,Option.map_some,Option.some.injEq] at he;subst he;obtain⟨a',w',nX,S'⟩:=MF (Wh (Q:=fun _ _ _=>False) (K:=fun a' w'=>∃nX,kM F h0 w0 nt nX (e.apply st) a' w') S iY hee hd (fun nX a' w' h=>⟨nX,h⟩))
       exact⟨F,h0,w0,nX,a',w',S'⟩
   | false =>
     simp only[Bool.false_eq_true,if_false,Option.some.injEq] at he;subst he;exact⟨F,h0,w0,ρ,_,w,S.put o.dst hd (.v _)⟩
theorem wJ {b:Array Nat} {i a:Nat} {aS:List Nat} (ha:a∈aS):∀(l:List Oper) (m0:Nat),xC b i aS l m0=true->∀m o,l[m]? = some o->o.dst=some a->(b.getD i 0).testBit (m0+m)=true
 | [],_,_,m,o,h,_=>by simp at h
 | o' :: l,m0,h,m,o,ho,hd=>by
   unfold xC at h;simp only[Bool.and_eq_true,Bool.or_eq_true] at h;cases m with
   | zero =>
     simp at ho
     subst ho;rcases h.1 with h|h
     ·rw[hd] at h;simp[ha] at h
     ·simpa using h
   | succ m =>
     have:=wJ ha l (m0+1) h.2 m o (by simpa using ho) hd
     rw[show m0+(m+1)=m0+1+m by omega]
     exact this
theorem pB.mem {s:St}:∀ {l:List (Nat × Nat)},pB ops s l->∀p∈l,Nq ops s p
 | p :: l,h,q,hq=>by
   rcases List.mem_cons.1 hq with rfl|hq
   ·exact h.1
   ·exact h.2.mem q hq
structure Left (ops:Array Oper) (lV:Array Bool) (l:List Nat):Prop where
 size:lV.size=ops.size
 mem:∀j,j∈l↔j<ops.size/\lV.getD j true=false
 sorted:l.Pairwise (· < ·)
 closed:∀j o,ops[j]? = some o->lV.getD j false=true->∀e∈o.after,Region.binds .any e=true->lV.getD e.on false=true
theorem Ej.aJo {dy:List (Nat × Nat)} {b:Array Nat} (D:Ej ops dy b):∀(j:Nat) o,ops[j]? = some o->∀k,(b.getD j 0).testBit k=true->k<j:=by
 intro j;induction j using Nat.strongRecOn with
 | _ j ih =>
   intro o ho k hk;have hj:j<ops.size:=(Array.getElem?_eq_some_iff.1 ho).1
   obtain⟨e,he,hb,hor⟩:=D.aPK j o (by rw[D.size];exact hj) ho k hk
   have aZ:=D.lt j o ho e he hb
   rcases hor with rfl|YU
   ·exact aZ
   ·have hes:e.on<ops.size:=by omega
    have:=ih e.on aZ _ (Array.getElem?_eq_getElem hes) k YU
    omega
theorem JF {lV:Array Bool} {j:Nat} (hj:j<lV.size):lV.getD j true=lV.getD j false:=by simp[hj]
theorem SW {dy:List (Nat × Nat)} {b:Array Nat} (D:Ej ops dy b) {lV:Array Bool} {l:List Nat} (L:Left ops lV l):∀(j:Nat) o,ops[j]? = some o->(∀e∈o.after,Region.binds .any e=true->lV.getD e.on false=true) ->
 ∀k,(b.getD j 0).testBit k=true->lV.getD k false=true:=by
 intro j;induction j using Nat.strongRecOn with
 | _ j ih =>
   intro o ho Ol k hk;have hj:j<ops.size:=(Array.getElem?_eq_some_iff.1 ho).1
   obtain⟨e,he,hb,hor⟩:=D.aPK j o (by rw[D.size];exact hj) ho k hk
   have hle:=Ol e he hb
   rcases hor with rfl|YU
   ·exact hle
   ·have aZ:=D.lt j o ho e he hb
    have hes:e.on<ops.size:=by omega
    exact ih e.on aZ _ (Array.getElem?_eq_getElem hes) (L.closed e.on _ (Array.getElem?_eq_getElem hes) hle) k YU
end
end Go.Ab
end
section
namespace Go.Ab
open Classical
variable [Ext]
section
variable {P:Program} {call:Nat->List AV->Option AV} {inl:Nat->List AV->St->Option (AV × St)} {bi:Bool} {nt:Nat} {h0:Nat->Obj->Prop} {w0:World} {F:Hx}
theorem FU {ops:Array Oper} {id:Nat} {draw:Bool} (h:codeOk bi nt (.region id ops draw)=true):(∀(j:Nat) o,ops[j]? = some o->∀d,o.dst=some d->d<nt)/\(draw=true->Za ops (if bi=true then Ext.dyn id ops.size (pO ops) else [])=true):=by
 simp only[codeOk,Bool.and_eq_true,Bool.or_eq_true,Bool.not_eq_true'] at h;refine⟨fun j o ho d hd=>?_,fun hdr=>h.2.resolve_left (by rw[hdr];simp)⟩
 have:=Array.all_eq_true_iff_forall_mem.1 h.1 o (Array.mem_of_getElem? ho)
 simpa [hd] using this
def Mw (P:Program) (inl:Nat->List AV->St->Option (AV × St)):Prop :=
 ∀g xs st r s',inl g xs st=some (r,s')->yF P g /\
  ∀(F:Hx) (h0:Nat->Obj->Prop) (w0:World) (nt:Nat) (ρ:Nat->Nat->Value) (a:Act) (w:World) (vs:Array Value) (K:Value->World->Prop),kM F h0 w0 nt ρ st a w->lA (ctx h0 w0 ρ st w) xs vs.toList ->
   (∀nX w' v,kM F h0 w0 nt nX (st.back s') a w'->cK (ctx h0 w0 nX (st.back s') w') r v->K v w')->Calls P g vs w fun en w'=>∃v,en=.returned v/\K v w'
theorem l4 {o:Oper} {g:Nat} {args:List Operand} (h:Dj o=some (g,args)):∃c,o.op=.call c/\c.callee=.value (.func g)/\c.args.toList=args:=by
 obtain⟨dst,op,type,pos,after,guard⟩:=o
 unfold Dj at h;split at h
 ·rename_i g' args' tN pX
  split at h
  ·simp only[Option.some.injEq,Prod.mk.injEq] at h;obtain⟨rfl,rfl⟩:=h
   exact⟨_,pX,rfl,rfl⟩
  ·cases h
 ·cases h
theorem Wl {ops:Array Oper} {Q:Exit->Act->World->Prop} {ρ:Nat->Nat->Value} {st st':St} {a:Act} {w:World} {K:Act->World->Prop} (S:kM F h0 w0 nt ρ st a w) (iY:oP P call) (Md:Mw P inl) {i:Nat} {o:Oper}
 (hi:ops[i]? = some o) (hd:∀d,o.dst=some d->d<nt) (h:gG P bi call inl ops o st=some st')
 (hK:∀nX a' w',kM F h0 w0 nt nX st' a' w'->K a' w'):wpOp P ops Q i K a w:=by
 unfold gG at h;split at h
 ·rename_i g args hg;have J0:Dj o=some (g,args):=by
   split at hg
   ·exact hg
   ·cases hg
  obtain⟨c,pX,hcal,vM⟩:=l4 J0
  unfold wpOp;simp only[hi];cases hgv:gv ops st o.guard with
  | none=>simp[hgv] at h
  | some b =>
    rw[SU S hgv];simp only[hgv] at h;cases b with
    | true =>
      simp only[if_true] at h ⊢;cases he:inl g (args.map st.ev) st with
      | none=>simp[he] at h
      | some r =>
        obtain⟨x,s'⟩:=r
        simp only[he,Option.map_some,Option.some.injEq] at h;subst h;refine .inl ?_
        obtain⟨⟨fn,aJl,aB4,aB5⟩,ZR⟩:=Md g _ st x s' he
        have hnb:fn.body.isNone=false:=by
         cases hb:fn.body<;>simp[hb] at aB5 ⊢
        have Ta : ¬ fn.name = "runtime.NumGoroutine" := by simpa using aB4
        have hn2:¬fn.body=none:=by intro h;simp[h] at hnb
        have qL:(execOp a.eval o).run P w=.ok (.enter g (c.args.map a.eval)) w:=by
         simp[execOp,pX,resolve,hcal,Act.eval,Deferred.ofValue,invoke,callFunc,aJl,Ta,hn2]
        have eM:lA (ctx h0 w0 ρ st w) (args.map st.ev) (c.args.map a.eval).toList:=by
         rw[<- vM];simpa using lA.map c.args.toList _ _ fun p _=>S.ev p
        unfold Oper.wp;rw[qL,Oper.upon_enter];refine (ZR F h0 w0 nt ρ a w (c.args.map a.eval) (fun v w'=>K (a.put o.dst v) w') S eM fun nX w' v S' hv=>?_).mono ?_
        ·exact hK nX _ w' (S'.put o.dst hd hv)
        ·rintro en w' ⟨v,rfl,hk⟩
         exact hk
    | false =>
      simp only[Bool.false_eq_true,if_false,Option.some.injEq] at h ⊢;subst h;exact hK ρ _ w (S.put o.dst hd (.v _))
 ·exact j9 S iY hi hd h hK
theorem CL {ops:Array Oper} (iY:oP P call) (Md:Mw P inl) (lE:∀(j:Nat) o,ops[j]? = some o->∀d,o.dst=some d->d<nt) {Q:Exit->Act->World->Prop} {sf:St}
 (hQ:∀nX a' w',kM F h0 w0 nt nX sf a' w'->Q .normal a' w'):∀(l:List Oper) (k:Nat) (st:St) (ρ:Nat->Nat->Value) (a:Act) (w:World),(∀(j:Nat) o,l[j]? = some o->ops[k+j]? = some o)->kM F h0 w0 nt ρ st a w ->
  lI P bi call inl ops l st=some sf->wpOps P ops Q (List.range' k l.length) a w
 | [],k,st,ρ,a,w,hl,S,h=>by
   simp only[lI,Option.some.injEq] at h;subst h;exact hQ ρ a w S
 | o :: l,k,st,ρ,a,w,hl,S,h=>by
   rw[List.length_cons,List.range'_succ,wpOps_cons];have hi:ops[k]? = some o:=hl 0 o rfl
   unfold lI at h;cases h1:gG P bi call inl ops o st with
   | none=>simp[h1,cA] at h
   | some s1 =>
     simp only[h1,cA] at h;exact Wl S iY Md hi (lE k o hi) h1 fun nX a' w' S'=>CL iY Md lE hQ l (k+1) s1 nX a' w' (fun j o' hj=>by
      have:=hl (j+1) o' (by simpa using hj)
      rw[show k+1+j=k+(j+1) by omega];exact this) S' h
noncomputable def Oo (P:Program) (bi:Bool) (call:Nat->List AV->Option AV) (inl:Nat->List AV->St->Option (AV × St)) (ops:Array Oper):List Nat->St->Option St
 | [],st=>some st
 | i :: r,st =>
   match ops[i]? with
   | some o=>cA (gG P bi call inl ops o st) (Oo P bi call inl ops r)
   | none=>Oo P bi call inl ops r st
theorem Wm {ops:Array Oper}:∀(l:List Oper) (k:Nat) (st:St),(∀j,l[j]? = ops[k+j]?\/l.length<=j)->lI P bi call inl ops l st=Oo P bi call inl ops (List.range' k l.length) st
 | [],k,st,h=>rfl
 | o :: l,k,st,h=>by
   have h0:=(h 0).resolve_right (by simp)
   simp only[List.getElem?_cons_zero,Nat.add_zero] at h0;simp only[lI,List.length_cons,List.range'_succ,Oo,<- h0];cases gG P bi call inl ops o st with
   | none=>rfl
   | some s =>
     simp only[cA];exact Wm l (k+1) s fun j=>by
      rcases h (j+1) with h|h
      ·left
       rw[show k+1+j=k+(j+1) by omega,<- h]
       simp
      ·right
       simpa using h
theorem CM {ops:Array Oper} {o:Oper} {st s:St} {a:Nat} (h:cE P call ops o st=some s) (hd:o.dst≠some a):s.env a=st.env a:=by
 rw[Gt] at h;cases he:sK P call ops o st with
 | none=>simp[he] at h
 | some e =>
   simp only[he,Option.map_some,Option.some.injEq] at h;subst h;rw[oQ,(pA he).1,if_neg hd]
theorem aCg {o:Oper} (h:B0 o=true):Dj o=none:=by simpa [B0] using h
theorem SX {ops:Array Oper} {o:Oper} (h:B0 o=true) (st:St):gG P bi call inl ops o st=cE P call ops o st:=by
 unfold gG;rw[aCg h];cases bi<;>rfl
theorem Q2 {ops:Array Oper} {o:Oper} {st s:St} {a:Nat} (h:gG P bi call inl ops o st=some s) (hd:o.dst≠some a):s.env a=st.env a:=by
 unfold gG at h;have hput:∀(s0:St) (x:AV),(s0.put o.dst x).env a=s0.env a:=fun s0 x=>by
  cases hod:o.dst with
  | none=>rfl
  | some d =>
    simp only[St.put];rw[if_neg];rintro rfl
    exact hd hod
 split at h
 ·split at h
  ·split at h
   ·simp only[Option.map_eq_some_iff] at h;obtain⟨r,_,rfl⟩:=h
    exact hput _ _
   ·simp only[Option.some.injEq] at h;subst h;exact hput _ _
  ·cases h
 ·exact CM h hd
theorem Ro {ops:Array Oper} {a:Nat}:∀(l:List Nat) {st sf:St},(∀m∈l,∀o,ops[m]? = some o->o.dst≠some a)->Oo P bi call inl ops l st=some sf->sf.env a=st.env a
 | [],st,sf,_,h=>by
   simp only[Oo,Option.some.injEq] at h;subst h;rfl
 | i :: l,st,sf,hd,h=>by
   unfold Oo at h;cases hi:ops[i]? with
   | none=>simp only[hi] at h;exact Ro l (fun m hm=>hd m (by simp[hm])) h
   | some o =>
     simp only[hi] at h;cases h1:gG P bi call inl ops o st with
     | none=>simp[h1,cA] at h
     | some s1 =>
       simp only[h1,cA] at h;rw[Ro l (fun m hm=>hd m (by simp[hm])) h,Q2 h1 (hd i (by simp) o hi)]
def G2 (ops:Array Oper) (sf:St) (rest:List Nat) (k:Nat) (ok oi:Oper):Prop :=
 tD ops ok oi=true\/∃aS bs,gJ ok=some aS/\gJ oi=some bs/\Oper.apart ops ok oi=true/\Np sf aS bs /\
  (∀m∈rest,k<=m->∀o,ops[m]? = some o->∀a∈aS,o.dst≠some a)/\(∀m∈rest,∀o,ops[m]? = some o->∀b∈bs,o.dst≠some b)
theorem CN {ops:Array Oper} (iY:oP P call) (lE:∀(j:Nat) o,ops[j]? = some o->∀d,o.dst=some d->d<nt) {i:Nat} {oi:Oper} (hi:ops[i]? = some oi) (l2:List Nat):∀(l1:List Nat) (st sf:St),Valid nt st->(l1++i :: l2).Pairwise (· < ·) ->
 (∀k∈l1,∃ok,ops[k]? = some ok/\B0 ok=true/\B0 oi=true/\G2 ops sf (l1++i :: l2) k ok oi)->Oo P bi call inl ops (l1++i :: l2) st=some sf->Oo P bi call inl ops (i :: (l1++l2)) st=some sf
 | [],st,sf,_,_,_,h=>h
 | k :: l1,st,sf,hv,hs,nM,h=>by
   obtain⟨ok,qK,Ta,hn2,hak⟩:=nM k (by simp)
   have e1:=fun st=>SX (P:=P) (bi:=bi) (call:=call) (inl:=inl) (ops:=ops) Ta st
   have e2:=fun st=>SX (P:=P) (bi:=bi) (call:=call) (inl:=inl) (ops:=ops) hn2 st
   simp only[List.cons_append,Oo,qK,e1] at h;cases h1:cE P call ops ok st with
   | none=>simp[h1,cA] at h
   | some s1 =>
     simp only[h1,cA] at h;rw[List.cons_append,List.pairwise_cons] at hs;have ih:=CN iY lE hi l2 l1 s1 sf (hv.step iY (lE k ok qK) h1) hs.2 (fun k' hk=>by
      obtain⟨ok',h1,m1,m2,h2⟩:=nM k' (by simp[hk])
      refine⟨ok',h1,m1,m2,h2.imp id ?_⟩
      rintro⟨a,a',e1,e2,e3,e4,e5,e6⟩
      exact⟨a,a',e1,e2,e3,e4,fun m hm=>e5 m (by simp only[List.cons_append];exact List.mem_cons_of_mem _ hm),fun m hm=>e6 m (by simp only[List.cons_append];exact List.mem_cons_of_mem _ hm)⟩) h
     have ih0:=ih
     simp only[Oo,hi,e2] at ih;cases h2:cE P call ops oi s1 with
     | none=>simp[h2,cA] at ih
     | some s2 =>
       simp only[h2,cA] at ih;have hcomm:∃s3,cE P call ops oi st=some s3/\cE P call ops ok s3=some s2:=by
        rcases hak with hak|⟨aS,bs,e1',e2',e3,e4,e5,e6⟩
        ·exact aE9 hv.hp hak hv.ids h1 h2
        ·have w1:∀m∈i :: (l1++l2),m∈(k :: l1)++i :: l2/\k<=m:=fun m hm=>by
          have hm':m∈l1++i :: l2:=by
           simp only[List.mem_cons,List.mem_append] at hm ⊢;rcases hm with h|h|h
           ·exact .inr (.inl h)
           ·exact .inl h
           ·exact .inr (.inr h)
          exact⟨by simp only[List.cons_append];exact List.mem_cons_of_mem _ hm',Nat.le_of_lt (hs.1 m hm')⟩
         have f1:∀a∈aS,sf.env a=st.env a:=fun a ha=>by
          rw[Ro _ (fun m hm o ho=>e5 m (w1 m hm).1 (w1 m hm).2 o ho a ha) ih0,CM h1 (e5 k (by simp) (Nat.le_refl _) ok qK a ha)]
         have f2:∀b∈bs,sf.env b=st.env b:=fun b hb=>by
          rw[Ro _ (fun m hm o ho=>e6 m (w1 m hm).1 o ho b hb) ih0,CM h1 (e6 k (by simp) ok qK b hb)]
         have e4':Np st aS bs:=fun a ha b hb=>by
          have:=e4 a ha b hb
          rw[f1 a ha,f2 b hb] at this;exact this
         exact aCe hv.ids e1' e2' e3 e4' h1 h2
       obtain⟨s3,h3,h4⟩:=hcomm
       simp only[List.cons_append,Oo,hi,qK,e1,e2,h3,h4,cA];exact ih
theorem CO {ops:Array Oper} {Q:Exit->Act->World->Prop} (iY:oP P call) (Md:Mw P inl) (lE:∀(j:Nat) o,ops[j]? = some o->∀d,o.dst=some d->d<nt) {dy:List (Nat × Nat)} {b:Array Nat} (D:Ej ops dy b) {sf:St} (hsw:pB ops sf dy)
 (hQ:∀nX a' w',kM F h0 w0 nt nX sf a' w'->Q .normal a' w'):∀(f:Nat) (l:List Nat) (lV:Array Bool) (st:St) (ρ:Nat->Nat->Value) (a:Act) (w:World),l.length=f->Left ops lV l->kM F h0 w0 nt ρ st a w ->
 Oo P bi call inl ops l st=some sf->wpAny P .any ops Q f lV a w
 | 0,l,lV,st,ρ,a,w,hf,L,S,he=>by
   have hl:=List.length_eq_zero_iff.1 hf
   subst hl;simp only[Oo,Option.some.injEq] at he;subst he;refine⟨?_,hQ ρ a w S⟩
   cases hr:Region.ready .any ops lV with
   | nil=>rfl
   | cons x xs =>
     have hx:x∈Region.ready .any ops lV:=by rw[hr];simp
     obtain⟨h1,o,ho,_⟩:=mem_ready.1 hx
     have:=(L.mem x).2 ⟨(Array.getElem?_eq_some_iff.1 ho).1,h1⟩
     simp at this
 | f+1,l,lV,st,ρ,a,w,hf,L,S,he=>by
   refine⟨fun hr=>?_,fun i hi=>?_⟩
   ·exfalso
    cases l with
    | nil=>simp at hf
    | cons i l =>
      have hil:=(L.mem i).1 (by simp)
      have:i∈Region.ready .any ops lV:=mem_ready.2 ⟨hil.2,ops[i],Array.getElem?_eq_getElem hil.1,fun e zD hb=>by
       have aZ:=D.lt i _ (Array.getElem?_eq_getElem hil.1) e zD hb
       cases hle:lV.getD e.on false with
       | true=>rfl
       | false =>
         have F6:e.on<lV.size:=by rw[L.size];omega
         have C5:=(L.mem e.on).2 ⟨by omega,by rw[JF F6];exact hle⟩
         rcases List.mem_cons.1 C5 with h|h
         ·omega
         ·have:=(List.pairwise_cons.1 L.sorted).1 _ h
          omega⟩
      rw[hr] at this;simp at this
   ·obtain⟨h1,oi,hoi,Ol⟩:=mem_ready.1 hi
    have hilt:i<ops.size:=(Array.getElem?_eq_some_iff.1 hoi).1
    have hil:=(L.mem i).2 ⟨hilt,h1⟩
    obtain⟨l1,l2,rfl⟩:=List.append_of_mem hil
    have hs:=L.sorted
    rw[List.pairwise_append] at hs;obtain⟨s1,s2,s3⟩:=hs
    have hno:∀m,(b.getD i 0).testBit m=true->m ∉ l1++i :: l2:=fun m h hm=>by
     have hkm:=(L.mem m).1 hm
     have:=SW D L i oi hoi Ol m h
     rw[<- JF (by rw[L.size];exact hkm.1),hkm.2] at this
     cases this
    have nM:∀k∈l1,∃ok,ops[k]? = some ok/\B0 ok=true/\B0 oi=true/\G2 ops sf (l1++i :: l2) k ok oi:=fun k hk=>by
     have hki:=s3 k hk i (by simp)
     have hkm:=(L.mem k).1 (by simp[hk])
     refine⟨ops[k],Array.getElem?_eq_getElem hkm.1, ?_⟩
     rcases D.apart k i _ oi hki (Array.getElem?_eq_getElem hkm.1) hoi with h|⟨n1,n2,h|⟨hm,h⟩⟩
     ·exact absurd (by simp[hk]) (hno k h)
     ·exact⟨n1,n2,.inl h⟩
     ·refine⟨n1,n2,.inr ?_⟩
      have hsa:=hsw.mem _ hm
      unfold Nq at hsa;simp only[Array.getElem?_eq_getElem hkm.1,hoi,Option.bind_some] at hsa;unfold JO at h;cases ha:gJ ops[k] with
      | none=>rw[ha] at h;cases h
      | some aS =>
        cases ha':gJ oi with
        | none=>rw[ha,ha'] at h;cases h
        | some bs =>
          rw[ha,ha'] at hsa h;simp only[Bool.and_eq_true] at h hsa;refine⟨aS,bs,rfl,rfl,h.1.1,hsa,fun m hm hkm' o ho a haa hd=>?_,fun m hm o ho b vI hd=>?_⟩
          ·have hb:=wJ haa _ 0 h.1.2 m o (by simpa using ho) hd
           rw[Nat.zero_add] at hb;have aZ:=D.aJo k _ (Array.getElem?_eq_getElem hkm.1) m hb
           omega
          ·have hb:=wJ vI _ 0 h.2 m o (by simpa using ho) hd
           rw[Nat.zero_add] at hb;exact hno m hb hm
    have zD:=CN iY lE hoi l2 l1 st sf ⟨F,h0,w0,ρ,a,w,S⟩ L.sorted nM he
    simp only[Oo,hoi] at zD
    cases h2:gG P bi call inl ops oi st with
    | none=>simp[h2,cA] at zD
    | some s2' =>
      simp only[h2,cA] at zD
      refine Wl S iY Md hoi (lE i oi hoi) h2 fun nX a' w' S'=>?_
      refine CO iY Md lE D hsw hQ f (l1++l2) _ s2' nX a' w' (by simp at hf ⊢;omega) ⟨by simp[L.size],fun j=>?_, ?_,fun j o ho hlj e he'' hb=>?_⟩ S' zD
      ·have hm:=L.mem j
       simp only[List.mem_append,List.mem_cons] at hm ⊢;by_cases hji:j=i
       ·subst hji;have Ta:j ∉ l1:=fun h=>by have:=s3 j h j (by simp);omega
        have hn2:j ∉ l2:=fun h=>by have:=(List.pairwise_cons.1 s2).1 j h;omega
        have hset:(lV.setIfInBounds j true).getD j true=true:=by
         have:j<lV.size:=by rw[L.size];exact hilt
         simp[this]
        simp[Ta,hn2,hset]
       ·rw[getD_set_ne true (Ne.symm hji)];simpa [hji] using hm
      ·rw[List.pairwise_append];exact⟨s1,(List.pairwise_cons.1 s2).2,fun x hx y hy=>s3 x hx y (by simp[hy])⟩
      ·by_cases hji:i=j
       ·subst hji;rw[hoi] at ho;cases ho
        exact getD_set_true (Ol e he'' hb)
       ·rw[getD_set_ne false hji] at hlj;exact getD_set_true (L.closed j o ho hlj e he'' hb)
theorem MG (hm:P.follows .mixedOrders=true) (iY:oP P call) (Md:Mw P inl) {ops:Array Oper} {id:Nat} {draw:Bool} (qK:codeOk bi nt (.region id ops draw)=true) {Q:Exit->Act->World->Prop} {st sf:St} {ρ:Nat->Nat->Value} {a:Act} {w:World}
 (S:kM F h0 w0 nt ρ st a w) (hsw:bi=true->pB ops sf (Ext.dyn id ops.size (pO ops))) (h:lI P bi call inl ops ops.toList st=some sf) (hQ:∀nX a' w',kM F h0 w0 nt nX sf a' w'->Q .normal a' w'):(Code.region id ops draw).wp P Q a w:=by
 obtain⟨lE,hdraw⟩:=FU qK
 cases draw with
 | false =>
   refine wp_region ?_
   rw[List.range_eq_range'];have:=CL iY Md lE hQ ops.toList 0 st ρ a w (fun j o hj=>by simpa using hj) S h
   simpa using this
 | true =>
   rw[Wm ops.toList 0 st (fun j=>.inl (by simp))] at h
   obtain⟨b,D⟩:=SS (hdraw rfl)
   refine wp_region_any hm ?_
   have hg:w.grownBy { w with drawn:=w.drawn+1 } none:=⟨rfl,rfl,rfl,Nat.le_refl _,fun _ _ _=>rfl⟩
   have hsw':pB ops sf (if bi=true then Ext.dyn id ops.size (pO ops) else []):=by
    cases bi with
    | true=>exact hsw rfl
    | false=>exact trivial
   refine CO iY Md lE D hsw' hQ ops.size (List.range' 0 ops.size) _ st ρ a _ (by simp) ⟨by simp,fun j=>?_, ?_,fun j o ho hl=>?_⟩ (S.grow hg).1 (by simpa using h)
   ·rw[<- List.range_eq_range',List.mem_range];constructor
    ·intro hj;exact⟨hj,by simp[hj]⟩
    ·exact fun h=>h.1
   ·rw[<- List.range_eq_range'];exact List.pairwise_lt_range
   ·simp[Array.getD_eq_getD_getElem?,Array.getElem?_replicate] at hl
    split at hl<;>simp at hl
theorem Gd {p:Nat->Prop} (h:∃n,p n):∃n,p n/\∀m,p m->n<=m:=by
 obtain⟨n,hn⟩:=h
 induction n using Nat.strongRecOn with
 | _ n ih =>
   by_cases hl:∃m,m<n/\p m
   ·obtain⟨m,hm,hp⟩:=hl
    exact ih m hm hp
   ·exact⟨n,hn,fun m hm=>by
     rcases Nat.lt_or_ge m n with h|h
     ·exact absurd ⟨m,h,hm⟩ hl
     ·exact h⟩
noncomputable def CP (p:Nat->Prop):Nat:=if h:∃n,p n then Classical.choose (Gd h) else 0
theorem Wn {p:Nat->Prop} (h:∃n,p n):p (CP p)/\∀m,p m->CP p<=m:=by
 unfold CP;rw[dif_pos h];exact Classical.choose_spec (Gd h)
def Ex.to:Ex->Exit
 | .normal=>.normal
 | .exit id=>.exit id
 | .ret=>.ret
theorem oR (hm:P.follows .mixedOrders=true) (iY:oP P call) (Md:Mw P inl) (n:Nat):∀(c:Code) (st sf:St) (ex:Ex) (ρ:Nat->Nat->Value) (a:Act) (w:World) (Q:Exit->Act->World->Prop),codeOk bi nt c=true ->
 kM F h0 w0 nt ρ st a w->uF P bi call inl n c st=some (ex,sf)->(∀nX a' w',kM F h0 w0 nt nX sf a' w'->Q ex.to a' w')->c.wp P Q a w:=by
 induction n using Nat.strongRecOn with
 | _ n ih =>
 have oR:∀m,m<n->∀(c:Code) (st sf:St) (ex:Ex) (ρ:Nat->Nat->Value) (a:Act) (w:World) (Q:Exit->Act->World->Prop),codeOk bi nt c=true ->
  kM F h0 w0 nt ρ st a w->uF P bi call inl m c st=some (ex,sf)->(∀nX a' w',kM F h0 w0 nt nX sf a' w'->Q ex.to a' w')->c.wp P Q a w:=ih
 clear ih
 intro c st sf ex ρ a w Q qK S h hQ;cases n with
 | zero=>simp[uF] at h
 | succ n =>
   cases c<;>simp only[uF] at h
   case skip =>
    simp only[Option.some.injEq,Prod.mk.injEq] at h;obtain⟨rfl,rfl⟩:=h
    exact wp_skip (hQ ρ a w S)
   case region id ops draw =>
    cases h1:lI P bi call inl ops ops.toList st with
    | none=>simp[h1,cA] at h
    | some s1 =>
      simp only[h1,cA] at h;split at h
      ·cases h
      ·rename_i hsw;simp only[Option.some.injEq,Prod.mk.injEq] at h;obtain⟨rfl,rfl⟩:=h
       exact MG hm iY Md qK S (fun hb=>Classical.byContradiction fun hc=>hsw ⟨hb,hc⟩) h1 hQ
   case seq x y =>
    simp only[codeOk,Bool.and_eq_true] at qK;cases h1:uF P bi call inl n x st with
    | none=>simp[h1,cA] at h
    | some r =>
      obtain⟨e1,s1⟩:=r
      simp only[h1,cA] at h;refine wp_seq (oR n (by omega) x st s1 e1 ρ a w _ qK.1 S h1 fun nX a' w' S'=>?_)
      cases e1 with
      | normal=>exact oR n (by omega) y s1 sf ex nX a' w' Q qK.2 S' h hQ
      | exit id =>
        simp only[Option.some.injEq,Prod.mk.injEq] at h;obtain⟨rfl,rfl⟩:=h
        exact hQ nX a' w' S'
      | ret =>
        simp only[Option.some.injEq,Prod.mk.injEq] at h;obtain⟨rfl,rfl⟩:=h
        exact hQ nX a' w' S'
   case cond c x y =>
    simp only[codeOk,Bool.and_eq_true] at qK;split at h
    ·rename_i t ht;have hr:=S.ev c
     rw[ht] at hr;have hv:=iI hr
     refine wp_cond (t:=t) hv ?_
     cases t with
     | true=>exact oR n (by omega) x st sf ex ρ a w Q qK.1 S (by simpa using h) hQ
     | false=>exact oR n (by omega) y st sf ex ρ a w Q qK.2 S (by simpa using h) hQ
    ·cases h
   case block id b =>
    simp only[codeOk] at qK;cases h1:uF P bi call inl n b st with
    | none=>simp[h1,cA] at h
    | some r =>
      obtain⟨e1,s1⟩:=r
      simp only[h1,cA,Option.some.injEq,Prod.mk.injEq] at h;obtain⟨rfl,rfl⟩:=h
      refine wp_block (oR n (by omega) b st s1 e1 ρ a w _ qK S h1 fun nX a' w' S'=>?_)
      have:=hQ nX a' w' S'
      cases e1 with
      | normal=>exact this
      | exit i =>
        simp only[Ex.inBlock] at this;simp only[Ex.to,Exit.inBlock];by_cases hi:i=id
        ·rw[if_pos hi] at this ⊢;exact this
        ·rw[if_neg hi] at this ⊢;exact this
      | ret=>exact this
   case loop b =>
    have hok':=qK
    simp only[codeOk] at qK;let p:Act->World->Nat->Prop:=fun a w m=>m<=n+1/\∃st ρ,kM F h0 w0 nt ρ st a w/\uF P bi call inl m (.loop b) st=some (ex,sf)
    refine wp_loop (fun a w=>∃m,p a w m) (fun a w=>CP (p a w)) ⟨n+1,Nat.le_refl _,st,ρ,S,h⟩ fun a w hI=>?_
    obtain⟨⟨hle,st1,ρ1,S1,h1⟩,_⟩:=Wn hI
    generalize CP (p a w)=m at h1 hle
    cases m with
    | zero=>simp[uF] at h1
    | succ m =>
      simp only[uF] at h1;cases h2:uF P bi call inl m b st1 with
      | none=>simp[h2,cA] at h1
      | some r =>
        obtain⟨e1,s1⟩:=r
        simp only[h2,cA] at h1;have hmn:m<=n:=by omega
        refine oR m (by omega) b st1 s1 e1 ρ1 a w _ qK S1 h2 fun nX a' w' S'=>?_
        cases e1 with
        | normal =>
          have hp:p a' w' m:=⟨by omega,s1,nX,S',h1⟩
          exact⟨⟨m,hp⟩,Nat.lt_succ_of_le ((Wn ⟨m,hp⟩).2 m hp)⟩
        | exit id =>
          simp only[Option.some.injEq,Prod.mk.injEq] at h1;obtain⟨rfl,rfl⟩:=h1
          exact hQ nX a' w' S'
        | ret =>
          simp only[Option.some.injEq,Prod.mk.injEq] at h1;obtain⟨rfl,rfl⟩:=h1
          exact hQ nX a' w' S'
   case exit id =>
    simp only[Option.some.injEq,Prod.mk.injEq] at h;obtain⟨rfl,rfl⟩:=h
    exact wp_exit (hQ ρ a w S)
   case ret =>
    simp only[Option.some.injEq,Prod.mk.injEq] at h;obtain⟨rfl,rfl⟩:=h
    exact wp_ret (hQ ρ a w S)
   all_goals cases h
end
end Go.Ab
end
section
namespace Go.Ab
open Classical
variable [Ext]
section
variable {P:Program}
theorem SY {h0:Nat->Obj->Prop} {w w':World}:(bare (Eg h0 w w')).Le (bare (newHs h0 w w' [])) :=
 ⟨fun b o h=>⟨h.1,h.2,by simp⟩,fun _=>Nat.le_refl _,fun _ _ h=>absurd h (by simp[bare])⟩
def Ay (tmps:Array Value):ResultVar->Sem Value
 | .tmp t=>pure (tmps.getD t undef)
 | .cell p t=>do loadVar t (<- asAddr (tmps.getD p undef))
theorem MH {h0:Nat->Obj->Prop} {w0:World} {F:Hx} {nt:Nat} {ρ:Nat->Nat->Value} {st:St} {a:Act} {w:World} (S:kM F h0 w0 nt ρ st a w) {rv:ResultVar} {x:AV} (h:jB P st rv=some x) :
 ∃y,(Ay a.tmps rv).run P w=.ok y w/\cK (ctx h0 w0 ρ st w) x y:=by
 cases rv with
 | tmp t =>
   simp only[jB,Option.some.injEq] at h;subst h;exact⟨_,rfl,S.env t⟩
 | cell p T =>
   simp only[jB] at h;cases hra:qP st (st.env p) with
   | none=>simp[hra,cA] at h
   | some cs =>
     simp only[hra,cA] at h;obtain⟨b,off,arr,B,fr,hu,_,_⟩:=Pw S hra (S.env p)
     obtain⟨r,hr,eM⟩:=Zg S hra h (S.env p)
     rw[hu] at hr;refine⟨r, ?_,eM⟩
     simp only[Instr.loadAt,Instr.sureAddr] at hr;simp only[Ay,hu,asAddr];exact hr
theorem lW {h0:Nat->Obj->Prop} {w0:World} {F:Hx} {nt:Nat} {ρ:Nat->Nat->Value} {st:St} {a:Act} {w:World} (S:kM F h0 w0 nt ρ st a w):∀(rs:List ResultVar) (xs:List AV),rs.map (jB P st)=xs.map some ->
 ∃ys,(rs.mapM (Ay a.tmps)).run P w=.ok ys w/\lA (ctx h0 w0 ρ st w) xs ys
 | [],xs,h=>by
   cases xs with
   | nil=>exact⟨[],rfl,.nil _⟩
   | cons x xs=>simp at h
 | r :: rs,xs,h=>by
   cases xs with
   | nil=>simp at h
   | cons x xs =>
     simp only[List.map_cons,List.cons.injEq] at h;obtain⟨y,hy,eM⟩:=MH S h.1
     obtain⟨ys,Ue,hrels⟩:=lW S rs xs h.2
     refine⟨y :: ys, ?_,.cons eM hrels⟩
     rw[List.mapM_cons,dF hy,dF Ue];rfl
theorem MI {h0:Nat->Obj->Prop} {w0:World} {F:Hx} {nt:Nat} {ρ:Nat->Nat->Value} {st:St} {a:Act} {w:World} (S:kM F h0 w0 nt ρ st a w) {fn:Func} {r:AV} (h:tC P fn st=some r) :
 ∃v,(results fn a.tmps).run P w=.ok v w/\BX h0 w0 w r v:=by
 have SZ:∀(ys:List Value),(fn.results.toList.mapM (Ay a.tmps)).run P w=.ok ys w ->
  (results fn a.tmps).run P w=.ok (if h:ys.toArray.size=1 then ys.toArray[0] else .tuple ys.toArray) w:=by
  intro ys Ue;have e:results fn a.tmps=(do let vs <- fn.results.mapM (Ay a.tmps);pure (if h:vs.size=1 then vs[0] else .tuple vs)):=by
   unfold results;congr 1
  rw[e,Array.mapM_eq_mapM_toList];simp only[Sem.run_bind,Sem.run_map,Ue,Result.andThen_ok,Sem.run_pure]
 unfold tC at h;split at h
 ·rename_i r1 W8;cases h1:jB P st r1 with
  | none=>simp[h1,cA] at h
  | some x =>
    simp only[h1,cA] at h;obtain⟨ys,Ue,eM⟩:=lW (P:=P) S [r1] [x] (by simp[h1])
    have hlen:=eM.len
    obtain⟨y,rfl⟩:∃y,ys=[y]:=by
     cases ys with
     | nil=>simp at hlen
     | cons y ys=>cases ys with
       | nil=>exact⟨y,rfl⟩
       | cons z zs=>simp at hlen
    have hxy:=eM.head
    have qL:=SZ [y] (by rw[W8];exact Ue)
    simp at qL
    refine⟨y,qL, ?_⟩
    unfold Ih at h;split at h
    ·rename_i s g;split at h
     ·rename_i e sz n cs he;split at h
      ·rename_i hf;simp only[Option.some.injEq] at h;subst h;obtain⟨_,_,xs,ho,hc⟩:=S.rT s g _ he
       cases hxy with
       | own _ _ hg HH =>
         refine⟨[ρ s g],fun x hx=>by simp at hx;subst hx;exact HH,fun i j x y b hi hj _ _=>by
          have:=(List.getElem?_eq_some_iff.1 hi).1
          have:=(List.getElem?_eq_some_iff.1 hj).1
          simp only[List.length_singleton] at *
          omega,fun x hx b hb=>by simp at hx;subst hx;exact (tS ho b hb).1,fun d c=>rfl,fun D d c hD jP=>?_⟩
         obtain⟨k1,k2⟩:=jP 0 _ rfl
         simp only[Nat.add_zero] at k1 k2;refine⟨?_,fun i e' x hi hx=>?_⟩
         ·have:=cK.own (C:=D) d c k1 (by rw[k2];exact HH)
          rw[k2] at this;exact this
         ·match i with
          | 0 =>
            simp only[WA,Ww,yR,List.getElem?_cons_zero,Option.some.injEq] at hi hx;subst hi;subst hx;exact⟨xs,ho,hc.flat hf fun b o hb=>hD b o ⟨hb.1,hb.2.1,by simpa using hb.2.2 s g _ he⟩⟩
          | i+1=>simp at hx
      ·cases h
     ·cases h
    ·exact Ug (Lb h) ((Om S hxy h).le SY)
 ·rename_i rs gI;simp only[Option.map_eq_some_iff] at h;obtain⟨ds,Uh,rfl⟩:=h
  have hm:=jH _ _ Uh
  have hex:∃xs:List AV,fn.results.toList.map (jB P st)=xs.map some/\xs.map (zX st)=ds.map some:=by
   generalize fn.results.toList=l at hm
   clear Uh
   induction l generalizing ds with
   | nil=>cases ds with
     | nil=>exact⟨[],rfl,rfl⟩
     | cons d ds=>simp at hm
   | cons r l ih=>cases ds with
     | nil=>simp at hm
     | cons d ds =>
       simp only[List.map_cons,List.cons.injEq] at hm;obtain⟨xs,e1,e2⟩:=ih ds hm.2
       cases hr:jB P st r with
       | none=>simp[hr,cA] at hm
       | some x =>
         simp only[hr,cA] at hm;exact⟨x :: xs,by simp[hr,e1],by simp[hm.1,e2]⟩
  obtain⟨xs,e1,e2⟩:=hex
  obtain⟨ys,Ue,eM⟩:=lW S _ xs e1
  have Sz:xs.length=fn.results.toList.length:=by have:=congrArg List.length e1;simpa using this.symm
  have I9:ds.length=xs.length:=by have:=congrArg List.length e2;simpa using this.symm
  have aCh:ys.toArray.size≠1:=by
   intro h1;have hlen:=eM.len
   simp only[List.size_toArray] at h1;have:fn.results.toList.length=1:=by omega
   obtain⟨z,hz⟩:=List.length_eq_one_iff.1 this
   exact gI z hz
  have qL:=SZ ys Ue
  rw[dif_neg aCh] at qL;refine⟨_,qL, ?_⟩
  refine Ug (.dX ds (pK (p:=Flat) (f:=fun r=>cA (jB P st r) (zX st)) (fun a b h=>by
   cases hr:jB P st a with
   | none=>simp[hr,cA] at h
   | some x=>simp only[hr,cA] at h;exact ZM h) _ _ Uh)) (.dX ds ys.toArray (by simp;rw[I9];exact eM.len) fun i x y hx hy=>?_)
  have hi:i<xs.length:=by have:=(List.getElem?_eq_some_iff.1 hx).1;omega
  have Ic:zX st xs[i]=some x:=by
   have:=congrArg (·[i]?) e2
   simp only[List.getElem?_map,hx,List.getElem?_eq_getElem hi,Option.map_some,Option.some.injEq] at this;exact this
  exact (SJ S (eM.rel i xs[i] y (by simp[hi]) (by simpa using hy)) Ic).le SY
def G3 (w0:World) (ρ:Nat->Nat->Value) (st:St) (w:World) (d:Nat) (H:Nat->Obj->Prop) (f:Nat->AV->AV × List jC) (y:AV) (ks:List (Nat × Nat)) (u:Value):Prop :=
 (∀k∈ks,∃e,st.heap k.1 k.2=some e/\e.WM=false)/\∀c,(f c y).2.length=ks.length/\∀D:Ctx,(∀b o,H b o->D.h b o)->(∀(i:Nat) (k:Nat × Nat),ks[i]? = some k->c+i<D.aK d/\D.ρ d (c+i)=ρ k.1 k.2) ->
  cK D (f c y).1 u/\∀(i:Nat) (e:jC) (k:Nat × Nat),(f c y).2[i]? = some e->ks[i]? = some k->nK D w w0.heap.size (ρ k.1 k.2) e
section pY
variable {h0:Nat->Obj->Prop} {w0:World} {F:Hx} {nt:Nat} {ρ:Nat->Nat->Value} {st:St} {a:Act} {w:World} {H:Nat->Obj->Prop}
theorem aCi (S:kM F h0 w0 nt ρ st a w) (hH:∀b o,(ctx h0 w0 ρ st w).h b o->H b o) {x y:AV} {u:Value} (hu:cK (ctx h0 w0 ρ st w) x u) (h:jU st x=some y) (d:Nat):G3 w0 ρ st w d H (yR d) y (gD x) u:=by
 unfold jU at h;split at h
 ·rename_i hf;simp only[Option.some.injEq] at h;subst h;have hk:gD x=[]:=by cases hf<;>rfl
  rw[hk];refine⟨by simp,fun c=>?_⟩
  rw[Kz hf];exact⟨rfl,fun D hD _=>⟨hu.flat hf fun b o hb=>hD _ _ (hH _ _ hb),by simp⟩⟩
 ·split at h
  ·rename_i s g _;split at h
   ·rename_i e sz n cs he;split at h
    ·rename_i hf;simp only[Option.some.injEq] at h;subst h;obtain⟨_,h1,xs,ho,hc⟩:=S.rT s g _ he
     have hu':u=ρ s g:=by cases hu;rfl
     subst hu'
     refine⟨by simp[gD];exact⟨_,he,rfl⟩,fun c=>⟨rfl,fun D hD jP=>?_⟩⟩
     obtain⟨k1,k2⟩:=jP 0 (s,g) rfl
     simp only[Nat.add_zero] at k1 k2;refine⟨?_,fun i e' k hi hk=>?_⟩
     ·have:=cK.own (C:=D) d c k1 (by rw[k2];exact h1)
      rw[k2] at this;exact this
     ·match i with
      | 0 =>
        simp only[yR,gD,List.getElem?_cons_zero,Option.some.injEq] at hi hk;subst hi;subst hk;exact⟨xs,ho,hc.flat hf fun b o hb=>hD _ _ (hH _ _ hb)⟩
      | i+1=>simp[gD] at hk
    ·cases h
   ·cases h
  ·cases h
theorem aCj {f:Nat->AV->AV × List jC} {kf:AV->List (Nat × Nat)} {d:Nat}:∀(xs ys:List AV) (us:List Value),xs.length=ys.length->xs.length=us.length ->
 (∀(i:Nat) (x y:AV) (u:Value),xs[i]? = some x->ys[i]? = some y->us[i]? = some u->G3 w0 ρ st w d H f y (kf x) u) ->
 (∀k∈xs.flatMap kf,∃e,st.heap k.1 k.2=some e/\e.WM=false)/\∀c,(qA f c ys).2.length=(xs.flatMap kf).length/\∀D:Ctx,(∀b o,H b o->D.h b o) ->
  (∀(i:Nat) (k:Nat × Nat),(xs.flatMap kf)[i]? = some k->c+i<D.aK d/\D.ρ d (c+i)=ρ k.1 k.2) ->
  lA D (qA f c ys).1 us/\∀(i:Nat) (e:jC) (k:Nat × Nat),(qA f c ys).2[i]? = some e->(xs.flatMap kf)[i]? = some k->nK D w w0.heap.size (ρ k.1 k.2) e
 | [],ys,us,h1,h2,_=>by
   have e1:ys=[]:=List.length_eq_zero_iff.1 (by simpa using h1.symm)
   have e2:us=[]:=List.length_eq_zero_iff.1 (by simpa using h2.symm)
   subst e1;subst e2;exact⟨by simp,fun c=>⟨rfl,fun D _ _=>⟨.nil _,by simp[qA]⟩⟩⟩
 | x :: xs,[],us,h1,_,_=>by simp at h1
 | x :: xs,y :: ys,[],_,h2,_=>by simp at h2
 | x :: xs,y :: ys,u :: us,h1,h2,hg=>by
   obtain⟨g1,g2⟩:=hg 0 x y u rfl rfl rfl
   obtain⟨i1,i2⟩:=aCj xs ys us (by simpa using h1) (by simpa using h2) fun i x' y' u' hx hy hu=>hg (i+1) x' y' u' (by simpa using hx) (by simpa using hy) (by simpa using hu)
   refine⟨fun k hk=>?_,fun c=>?_⟩
   ·simp only[List.flatMap_cons,List.mem_append] at hk;rcases hk with hk|hk
    ·exact g1 k hk
    ·exact i1 k hk
   ·obtain⟨l1,m1⟩:=g2 c
    obtain⟨l2,m2⟩:=i2 (c+(f c y).2.length)
    rw[l1] at l2 m2;simp only[qA,List.flatMap_cons,List.length_append,l1];refine⟨by rw[l2],fun D hD jP=>?_⟩
    obtain⟨r1,e1⟩:=m1 D hD fun i k hk=>jP i k (by rw[List.getElem?_append_left (List.getElem?_eq_some_iff.1 hk).1];exact hk)
    obtain⟨r2,e2⟩:=m2 D hD fun i k hk=>by
     have:=jP ((kf x).length+i) k (by rw[List.getElem?_append_right (by omega)];simpa using hk)
     rw[Nat.add_assoc];exact this
    refine⟨.cons r1 r2,fun i e k hi hk=>?_⟩
    by_cases aZ:i<(kf x).length
    ·rw[List.getElem?_append_left (by rw[l1];exact aZ)] at hi
     rw[List.getElem?_append_left aZ] at hk;exact e1 i e k hi hk
    ·rw[List.getElem?_append_right (by rw[l1];omega),l1] at hi
     rw[List.getElem?_append_right (by omega)] at hk
     exact e2 _ e k hi hk
theorem CQ {α β:Type} {f:α->Option β} {l:List α} {r:List β} (h:bK (l.map f)=some r):l.length=r.length/\∀(i:Nat) x y,l[i]? = some x->r[i]? = some y->f x=some y:=by
 have hm:=jH _ _ h
 have hl:l.length=r.length:=by have:=congrArg List.length hm;simpa using this
 refine⟨hl,fun i x y hx hy=>?_⟩
 have:=congrArg (·[i]?) hm
 simp only[List.getElem?_map,hx,hy,Option.map_some,Option.some.injEq] at this;exact this
theorem aHu (S:kM F h0 w0 nt ρ st a w) (hH:∀b o,(ctx h0 w0 ρ st w).h b o->H b o) {x y:AV} {u:Value} (hu:cK (ctx h0 w0 ρ st w) x u) (h:qB st x=some y) (d:Nat):G3 w0 ρ st w d H (Ww d) y (iV x) u:=by
 cases x
 case agg cs =>
  simp only[qB,Option.map_eq_some_iff] at h;obtain⟨ds,Uh,rfl⟩:=h
  obtain⟨hl,P5⟩:=CQ Uh
  cases hu with
  | agg _ ar hla hr h1 =>
    obtain⟨g1,g2⟩:=aCj (w0:=w0) (ρ:=ρ) (st:=st) (w:=w) (H:=H) (f:=yR d) (kf:=gD) (d:=d) cs ds ar.toList hl (by simpa using hla) fun i x y v hx hy hv=>aCi S hH (hr i x v hx (by simpa using hv)) (P5 i x y hx hy) d
    refine⟨g1,fun c=>?_⟩
    obtain⟨l1,m1⟩:=g2 c
    refine⟨l1,fun D hD jP=>?_⟩
    obtain⟨r1,e1⟩:=m1 D hD jP
    exact⟨.agg _ ar (by simpa using r1.len) (fun i x y hx hy=>r1.rel i x y hx (by simpa using hy)) h1,e1⟩
 all_goals
  have g:=aCi S hH hu h d
  cases y<;>first|exact g|skip
  all_goals
   exfalso
   simp only[qB] at h;unfold jU at h;split at h
   ·simp at h
   ·simp at h
    try (split at h<;>(try split at h)<;>simp at h)
theorem aHv (S:kM F h0 w0 nt ρ st a w) (hH:∀b o,(ctx h0 w0 ρ st w).h b o->H b o) {x y:AV} {u:Value} (hu:cK (ctx h0 w0 ρ st w) x u) (h:yI st x=some y) (d:Nat):G3 w0 ρ st w d H (WA d) y (jJ x) u:=by
 cases x
 case dX cs =>
  simp only[yI,Option.map_eq_some_iff] at h;obtain⟨ds,Uh,rfl⟩:=h
  obtain⟨hl,P5⟩:=CQ Uh
  cases hu with
  | dX _ ar hla hr =>
    obtain⟨g1,g2⟩:=aCj (w0:=w0) (ρ:=ρ) (st:=st) (w:=w) (H:=H) (f:=Ww d) (kf:=iV) (d:=d) cs ds ar.toList hl (by simpa using hla) fun i x y v hx hy hv=>aHu S hH (hr i x v hx (by simpa using hv)) (P5 i x y hx hy) d
    refine⟨g1,fun c=>?_⟩
    obtain⟨l1,m1⟩:=g2 c
    refine⟨l1,fun D hD jP=>?_⟩
    obtain⟨r1,e1⟩:=m1 D hD jP
    exact⟨.dX _ ar (by simpa using r1.len) (fun i x y hx hy=>r1.rel i x y hx (by simpa using hy)),e1⟩
 case agg cs =>
  have g:=aHu S hH hu h d
  cases y<;>first|exact g|(simp only[yI,qB,Option.map_eq_some_iff] at h;obtain⟨_,_,h⟩:=h;cases h)
 all_goals
  have g:=aCi S hH hu h d
  cases y<;>first|exact g|skip
  all_goals
   exfalso
   simp only[yI,qB] at h;unfold jU at h;split at h
   ·simp at h
   ·simp at h
    try (split at h<;>(try split at h)<;>simp at h)
theorem Wo (S:kM F h0 w0 nt ρ st a w) {x r:AV} {u:Value} (hu:cK (ctx h0 w0 ρ st w) x u) (hn:(jJ x).Nodup) (h:yI st x=some r):BX h0 w0 w r u:=by
 have hH:∀b o,(ctx h0 w0 ρ st w).h b o->newHs h0 w0 w ((jJ x).map fun k=>ρ k.1 k.2) b o:=fun b o hb=>by
  have g:=(aHv (H:=(ctx h0 w0 ρ st w).h) S (fun _ _ h=>h) hu h 0).1
  refine⟨hb.1,hb.2.1,fun y hy=>?_⟩
  obtain⟨k,hk,rfl⟩:=List.mem_map.1 hy
  obtain⟨e,he,_⟩:=g k hk
  exact hb.2.2 _ _ e he
 have g:=fun d=>aHv S hH hu h d
 have key:∀y∈(jJ x).map (fun k=>ρ k.1 k.2),∃k e,k∈jJ x/\y=ρ k.1 k.2/\st.heap k.1 k.2=some e/\e.WM=false:=fun y hy=>by
  obtain⟨k,hk,rfl⟩:=List.mem_map.1 hy
  obtain⟨e,he,hl⟩:=(g 0).1 k hk
  exact⟨k,e,hk,rfl,he,hl⟩
 refine⟨(jJ x).map fun k=>ρ k.1 k.2,fun y hy=>?_,fun i j y z b hy hz hb nA=>?_,fun y hy b hb=>?_,fun d c=>by rw[((g d).2 c).1];simp,fun D d c hD jP=>?_⟩
 ·obtain⟨k,e,_,rfl,he,_⟩:=key y hy
  exact (S.rT _ _ e he).2.1
 ·rw[List.getElem?_map] at hy hz;cases hi:(jJ x)[i]? with
  | none=>simp[hi] at hy
  | some k=>cases hj:(jJ x)[j]? with
    | none=>simp[hj] at hz
    | some k' =>
      simp only[hi,hj,Option.map_some,Option.some.injEq] at hy hz;subst hy;subst hz;obtain⟨e,he,_⟩:=(g 0).1 k (List.mem_of_getElem? hi)
      obtain⟨e',zD,_⟩:=(g 0).1 k' (List.mem_of_getElem? hj)
      obtain⟨q1,q2⟩:=S.inj _ _ _ _ e e' b he zD hb nA
      have hkk:k=k':=Prod.ext q1 q2
      subst hkk;obtain⟨hil,Da⟩:=List.getElem?_eq_some_iff.1 hi
      obtain⟨hjl,hje⟩:=List.getElem?_eq_some_iff.1 hj
      have hp:=List.pairwise_iff_getElem.1 hn
      rcases Nat.lt_trichotomy i j with aZ|heq|aZ
      ·exact absurd (Da.trans hje.symm) (hp i j hil hjl aZ)
      ·exact heq
      ·exact absurd (hje.trans Da.symm) (hp j i hjl hil aZ)
 ·obtain⟨k,e,_,rfl,he,hl⟩:=key y hy
  exact ((S.rT _ _ e he).2.2.WB b hb).1 hl
 ·obtain⟨r1,e1⟩:=((g d).2 c).2 D hD fun i k hk=>jP i _ (by rw[List.getElem?_map,hk];rfl)
  refine⟨r1,fun i e y hi hy=>?_⟩
  rw[List.getElem?_map] at hy;cases hk:(jJ x)[i]? with
  | none=>simp[hk] at hy
  | some k =>
    simp only[hk,Option.map_some,Option.some.injEq] at hy;subst hy;exact e1 i e k hi hk
end pY
theorem FV {h0:Nat->Obj->Prop} {w0:World} {F:Hx} {nt:Nat} {ρ:Nat->Nat->Value} {st:St} {a:Act} {w:World} (S:kM F h0 w0 nt ρ st a w) {fn:Func} {r:AV} (h:Fq P fn st=some r) :
 ∃v,(results fn a.tmps).run P w=.ok v w/\BX h0 w0 w r v:=by
 have SZ:∀(ys:List Value),(fn.results.toList.mapM (Ay a.tmps)).run P w=.ok ys w ->
  (results fn a.tmps).run P w=.ok (if h:ys.toArray.size=1 then ys.toArray[0] else .tuple ys.toArray) w:=by
  intro ys Ue;have e:results fn a.tmps=(do let vs <- fn.results.mapM (Ay a.tmps);pure (if h:vs.size=1 then vs[0] else .tuple vs)):=by
   unfold results;congr 1
  rw[e,Array.mapM_eq_mapM_toList];simp only[Sem.run_bind,Sem.run_map,Ue,Result.andThen_ok,Sem.run_pure]
 unfold Fq at h;split at h
 ·rename_i r1 W8;cases h1:jB P st r1 with
  | none=>simp[h1,cA] at h
  | some x =>
    simp only[h1,cA] at h;split at h
    ·rename_i hn;obtain⟨ys,Ue,eM⟩:=lW (P:=P) S [r1] [x] (by simp[h1])
     have hlen:=eM.len
     obtain⟨y,rfl⟩:∃y,ys=[y]:=by
      cases ys with
      | nil=>simp at hlen
      | cons y ys=>cases ys with
        | nil=>exact⟨y,rfl⟩
        | cons z zs=>simp at hlen
     have qL:=SZ [y] (by rw[W8];exact Ue)
     simp at qL
     exact⟨y,qL,Wo S eM.head hn h⟩
    ·cases h
 ·rename_i rs gI;cases Xg:bK (fn.results.toList.map fun r=>jB P st r) with
  | none=>simp[Xg,cA] at h
  | some xs =>
    simp only[Xg,cA] at h;split at h
    ·rename_i hn;have e1:=jH _ _ Xg
     obtain⟨ys,Ue,eM⟩:=lW S _ xs e1
     have Sz:xs.length=fn.results.toList.length:=by have:=congrArg List.length e1;simpa using this.symm
     have aCh:ys.toArray.size≠1:=by
      intro h1;have hlen:=eM.len
      simp only[List.size_toArray] at h1;have:fn.results.toList.length=1:=by omega
      obtain⟨z,hz⟩:=List.length_eq_one_iff.1 this
      exact gI z hz
     have qL:=SZ ys Ue
     rw[dif_neg aCh] at qL;exact⟨_,qL,Wo S (.dX xs ys.toArray (by simpa using eM.len) fun i x y hx hy=>eM.rel i x y hx (by simpa using hy)) hn h⟩
    ·cases h
theorem Mz {h0:Nat->Obj->Prop} {w0:World} {F:Hx} {nt:Nat} {ρ:Nat->Nat->Value} {st:St} {a:Act} {w:World} (S:kM F h0 w0 nt ρ st a w) {f:Nat} {fn:Func} {r:AV} (h:iH P f fn st=some r) :
 ∃v,(results fn a.tmps).run P w=.ok v w/\BX h0 w0 w r v:=by
 unfold iH at h;split at h
 ·exact FV S h
 ·exact MI S h
theorem aCk {h0:Nat->Obj->Prop} {w:World} {xs:List AV} {vs:Array Value} {nt:Nat} (hh:∀b o,h0 b o->w.heap[b]? = some o) (eM:lA (bare h0) xs vs.toList) :
 kM Hx.none h0 w nt (fun _ _=>undef) (St.init xs) { tmps:=vs++Array.replicate (nt-vs.size) undef,defers:=[]} w:=by
 have k:(bare h0).Le (ctx h0 w (fun _ _=>undef) (St.init xs) w):=⟨fun b o h=>⟨hh b o h,fun _=>h,fun s g e he=>by simp[St.init] at he⟩,fun _=>Nat.le_refl _,fun _ _ h=>absurd h (by simp[bare])⟩
 refine⟨fun t=>?_,fun s g e he=>by simp[St.init] at he,fun s g s' g' e e' b he=>by simp[St.init] at he,⟨rfl,rfl,rfl,Nat.le_refl _,fun _ _ _=>rfl⟩,by simp;omega,rfl,⟨fun x v h=>h.elim,fun b o h=>h.elim,Nat.zero_le _⟩⟩
 have hlen:=eM.len
 simp only[Array.length_toList] at hlen;show cK _ ((xs[t]?).getD (.v undef)) _
 by_cases ht:t<vs.size
 ·have hx:xs[t]? = some (xs[t]'(by omega)):=by simp[show t<xs.length by omega]
  have hy:vs.toList[t]? = some vs[t]:=by simp[ht]
  have:=(eM.rel t _ _ hx hy).le k
  rw[hx];simp only[Option.getD_some];have e:(vs++Array.replicate (nt-vs.size) undef).getD t undef=vs[t]:=by
   simp[Array.getElem?_append_left ht,ht]
  rw[e];exact this
 ·have hx:xs[t]? = none:=List.getElem?_eq_none (by omega)
  rw[hx];have e:(vs++Array.replicate (nt-vs.size) undef).getD t undef=undef:=by
   rw[Array.getD_eq_getD_getElem?,Array.getElem?_append_right (by omega),Array.getElem?_replicate]
   split<;>rfl
  rw[e];exact .v _
def IX (P:Program):Prop:=oP P Ext.ext/\Mw P Ext.Wv
theorem aFb {h0:Nat->Obj->Prop} {w0:World} {F:Hx} {nt:Nat} {ρ:Nat->Nat->Value} {st:St} {a:Act} {w:World} (S:kM F h0 w0 nt ρ st a w) {xs:List AV} {vs:Array Value} {n:Nat} (eM:lA (ctx h0 w0 ρ st w) xs vs.toList) :
 kM ⟨fun x v=>F.fr x v\/∃t,x=st.env t/\v=a.tmps.getD t undef,F.hb,F.sz⟩ h0 w0 n ρ ((St.init xs).back st) { tmps:=vs++Array.replicate (n-vs.size) undef,defers:=[]} w:=by
 have hc:ctx h0 w0 ρ ((St.init xs).back st) w=ctx h0 w0 ρ st w:=rfl
 refine⟨fun t=>?_,fun s g e he=>?_,fun s g s' g' e e' b he zD=>S.inj s g s' g' e e' b he zD,S.ext,by simp;omega,rfl,⟨fun x v h=>?_,S.Pl.2.1,S.Pl.2.2⟩⟩
 ·have hlen:=eM.len
  simp only[Array.length_toList] at hlen;show cK _ ((xs[t]?).getD (.v undef)) _
  by_cases ht:t<vs.size
  ·have hx:xs[t]? = some (xs[t]'(by omega)):=by simp[show t<xs.length by omega]
   have hy:vs.toList[t]? = some vs[t]:=by simp[ht]
   have:=eM.rel t _ _ hx hy
   rw[hx];simp only[Option.getD_some];have e:(vs++Array.replicate (n-vs.size) undef).getD t undef=vs[t]:=by
    simp[Array.getElem?_append_left ht,ht]
   rw[e];exact this
  ·have hx:xs[t]? = none:=List.getElem?_eq_none (by omega)
   rw[hx];have e:(vs++Array.replicate (n-vs.size) undef).getD t undef=undef:=by
    rw[Array.getD_eq_getD_getElem?,Array.getElem?_append_right (by omega),Array.getElem?_replicate]
    split<;>rfl
   rw[e];exact .v _
 ·exact S.rT s g e he
 ·rcases h with h|⟨t,rfl,rfl⟩
  ·exact S.Pl.1 x v h
  ·exact S.env t
theorem FW {h0:Nat->Obj->Prop} {w0:World} {F:Hx} {nt:Nat} {ρ:Nat->Nat->Value} {st:St} {a:Act} {w:World} (S:kM F h0 w0 nt ρ st a w) {fn:Func} {r:AV} (h:tE P fn st=some r) :
 ∃v,(results fn a.tmps).run P w=.ok v w/\cK (ctx h0 w0 ρ st w) r v:=by
 have SZ:∀(ys:List Value),(fn.results.toList.mapM (Ay a.tmps)).run P w=.ok ys w ->
  (results fn a.tmps).run P w=.ok (if h:ys.toArray.size=1 then ys.toArray[0] else .tuple ys.toArray) w:=by
  intro ys Ue;have e:results fn a.tmps=(do let vs <- fn.results.mapM (Ay a.tmps);pure (if h:vs.size=1 then vs[0] else .tuple vs)):=by
   unfold results;congr 1
  rw[e,Array.mapM_eq_mapM_toList];simp only[Sem.run_bind,Sem.run_map,Ue,Result.andThen_ok,Sem.run_pure]
 unfold tE at h;split at h
 ·rename_i r1 W8;obtain⟨ys,Ue,eM⟩:=lW (P:=P) S [r1] [r] (by simp[h])
  have hlen:=eM.len
  obtain⟨y,rfl⟩:∃y,ys=[y]:=by
   cases ys with
   | nil=>simp at hlen
   | cons y ys=>cases ys with
     | nil=>exact⟨y,rfl⟩
     | cons z zs=>simp at hlen
  have qL:=SZ [y] (by rw[W8];exact Ue)
  simp at qL
  exact⟨y,qL,eM.head⟩
 ·rename_i rs gI;cases Xg:bK (fn.results.toList.map fun r=>jB P st r) with
  | none=>simp[Xg] at h
  | some xs =>
    simp only[Xg,Option.map_some,Option.some.injEq] at h;subst h;have e1:=jH _ _ Xg
    obtain⟨ys,Ue,eM⟩:=lW S _ xs e1
    have Sz:xs.length=fn.results.toList.length:=by have:=congrArg List.length e1;simpa using this.symm
    have aCh:ys.toArray.size≠1:=by
     intro h1;have hlen:=eM.len
     simp only[List.size_toArray] at h1;have:fn.results.toList.length=1:=by omega
     obtain⟨z,hz⟩:=List.length_eq_one_iff.1 this
     exact gI z hz
    have qL:=SZ ys Ue
    rw[dif_neg aCh] at qL;exact⟨_,qL,.dX xs ys.toArray (by simpa using eM.len) fun i x y hx hy=>eM.rel i x y hx (by simpa using hy)⟩
theorem FX {xs:List AV} {u:Nat × Nat × Nat × List AV × List AV} (h:oD xs=some u):xs=.uniq u.1 u.2.1 u.2.2.1 u.2.2.2.1 :: u.2.2.2.2:=by
 unfold oD at h;split at h
 ·simp only[Option.some.injEq] at h;subst h;rfl
 ·cases h
theorem Q3 {h0:Nat->Obj->Prop} {w:World} {v0:Value} {e sz m:Nat} {cs xs:List AV} {ys:List Value} {vs:Array Value} {nt:Nat} (hh:∀b o,h0 b o->w.heap[b]? = some o) (gI:∀b o,h0 b o->cM v0≠some b) (ho:lO w 0 e sz v0 m ys) (hc:fQ (bare h0) cs ys) (eM:lA (bare h0) xs vs.toList) :
 kM ⟨fun _ _=>False,fun b o=>w.heap[b]? = some o/\cM v0≠some b,w.heap.size⟩ h0 { w with heap:=#[]} nt (fun s g=>if s=0/\g=0 then v0 else undef) (St.oB e sz m cs xs) { tmps:=(#[v0]++vs)++Array.replicate (nt-(#[v0]++vs).size) undef,defers:=[]} w:=by
 have vH:∀s g e',(St.oB e sz m cs xs).heap s g=some e'->s=0/\g=0/\e'=.row e sz m cs:=fun s g e' h=>by
  simp only[St.oB] at h;split at h
  ·rename_i h1;cases h;exact⟨h1.1,h1.2,rfl⟩
  ·cases h
 have k:(bare h0).Le (ctx h0 { w with heap:=#[]} (fun s g=>if s=0/\g=0 then v0 else undef) (St.oB e sz m cs xs) w) :=
  ⟨fun b o h=>⟨hh b o h,fun aZ=>by simp at aZ,fun s g e' he=>by
   obtain⟨rfl,rfl,_⟩:=vH _ _ _ he
   exact gI b o h⟩,fun _=>Nat.zero_le _,fun _ _ h=>absurd h (by simp[bare])⟩
 refine⟨fun t=>?_,fun s g e' he=>?_,fun s g s' g' e1 e2 b he zD _ _=>?_,⟨rfl,rfl,rfl,Nat.zero_le _,fun b hb _=>by simp at hb⟩,by simp;omega,rfl,⟨fun x v h=>h.elim,fun b o h=>⟨h.1,fun aZ=>by simp at aZ,fun s g e' he=>?_⟩,Nat.le_refl _⟩⟩
 ·have hlen:=eM.len
  simp only[Array.length_toList] at hlen;cases t with
  | zero =>
    have e0:((#[v0]++vs)++Array.replicate (nt-(#[v0]++vs).size) undef).getD 0 undef=v0:=by
     simp[Array.getElem?_append]
    rw[e0];have:=cK.own (C:=ctx h0 { w with heap:=#[]} (fun s g=>if s=0/\g=0 then v0 else undef) (St.oB e sz m cs xs) w) 0 0 (by show 0<(St.oB e sz m cs xs).aK 0;simp[St.oB]) (by show (if (0:Nat)=0/\(0:Nat)=0 then v0 else undef).oneCell'=true;simp;exact mW ho)
    have e1:(ctx h0 { w with heap:=#[]} (fun s g=>if s=0/\g=0 then v0 else undef) (St.oB e sz m cs xs) w).ρ 0 0=v0:=by show (if (0:Nat)=0/\(0:Nat)=0 then v0 else undef)=v0;simp
    rw[e1] at this;exact this
  | succ t =>
    show cK _ ((xs[t]?).getD (.v undef)) _
    by_cases ht:t<vs.size
    ·have hx:xs[t]? = some (xs[t]'(by omega)):=by simp[show t<xs.length by omega]
     have hy:vs.toList[t]? = some vs[t]:=by simp[ht]
     have:=(eM.rel t _ _ hx hy).le k
     rw[hx];simp only[Option.getD_some];have e2:((#[v0]++vs)++Array.replicate (nt-(#[v0]++vs).size) undef).getD (t+1) undef=vs[t]:=by
      rw[Array.getD_eq_getD_getElem?,Array.getElem?_append_left (by simp;omega),Array.getElem?_append_right (by simp)]
      simp[ht]
     rw[e2];exact this
    ·have hx:xs[t]? = none:=List.getElem?_eq_none (by omega)
     rw[hx];have e2:((#[v0]++vs)++Array.replicate (nt-(#[v0]++vs).size) undef).getD (t+1) undef=undef:=by
      rw[Array.getD_eq_getD_getElem?,Array.getElem?_append_right (by simp;omega),Array.getElem?_replicate]
      split<;>rfl
     rw[e2];exact .v _
 ·obtain⟨rfl,rfl,rfl⟩:=vH _ _ _ he
  refine⟨by simp[St.oB],by simp;exact mW ho, ?_⟩
  simp only[and_self,if_true];exact⟨ys,ho,hc.le k⟩
 ·obtain⟨rfl,rfl,_⟩:=vH _ _ _ he
  obtain⟨rfl,rfl,_⟩:=vH _ _ _ zD
  exact⟨rfl,rfl⟩
 ·obtain⟨rfl,rfl,_⟩:=vH _ _ _ he
  exact h.2
theorem aFc (hm:P.follows .mixedOrders=true) {call:Nat->List AV->Option AV} {inl:Nat->List AV->St->Option (AV × St)} (iY:oP P call) (Md:Mw P inl) {n g:Nat} {xs:List AV} {u:Nat × Nat × Nat × List AV × List AV} (hq:oD xs=some u) {r:AV}
 (h:runM P call inl n g u.1 u.2.1 u.2.2.1 u.2.2.2.1 u.2.2.2.2=some r):yF P g/\Av P g xs r:=by
 have Xg:=FX hq
 subst Xg;obtain⟨e,sz,m,cs,rest⟩:=u
 simp only at h ⊢
 unfold runM at h;cases hf:P.funcs[g]? with
 | none=>simp[hf] at h
 | some fn =>
   simp only[hf] at h;split at h
   ·rename_i qK;cases hb:fn.body with
    | none=>simp[hb] at h
    | some c =>
      simp only[hb] at h;simp only[sO,Vq,hb,Bool.and_eq_true,bne_iff_ne,ne_eq] at qK;refine⟨⟨fn,hf,by simpa using qK.1,by simp[hb]⟩, ?_⟩
      show ZJ P g e sz m cs rest r
      intro w h0 v0 ys vs hh gI ho Bl eM;cases h1:uF P (kI c) call inl n c (St.oB e sz m cs rest) with
      | none=>simp[h1,cA] at h
      | some es =>
        obtain⟨ex,sf⟩:=es
        simp only[h1,cA] at h;refine calls_of_wp hf hb ?_
        refine oR hm iY Md n c (St.oB e sz m cs rest) sf ex _ _ w _ qK.2 (Q3 hh gI ho Bl eM) h1 fun nX a' w' S'=>?_
        have fin:Bs P fn sf=some r->∃e' rS n' Br,r=.uniq e' rS n' Br/\a'.defers=[]/\∃v',(results fn a'.tmps).run P w'=.ok v' w'/\w.grownBy w' (cM v0) /\
         ∃zs,lO w' 0 e' rS v' n' zs/\fQ (bare h0) Br zs/\∀b,cM v'=some b->cM v0=some b\/w.heap.size<=b:=fun h=>by
         unfold Bs at h;split at h
         ·rename_i r1 W8;split at h
          ·rename_i s k hrv;split at h
           ·rename_i e' rS n' Br hhp
            split at h
            ·rename_i hmf;simp only[Option.some.injEq] at h;subst h;obtain⟨y,hy,Rh⟩:=lW (P:=P) S' [r1] [.own s k] (by simp[hrv])
             have hlen:=Rh.len
             obtain⟨z,rfl⟩:∃z,y=[z]:=by
              cases y with
              | nil=>simp at hlen
              | cons y ys=>cases ys with
                | nil=>exact⟨y,rfl⟩
                | cons z zs=>simp at hlen
             have hz:z=nX s k:=by
              have:=Rh.head
              cases this
              rfl
             subst hz;have qL:(results fn a'.tmps).run P w'=.ok (nX s k) w':=by
              have e1:results fn a'.tmps=(do let vs <- fn.results.mapM (Ay a'.tmps);pure (if h:vs.size=1 then vs[0] else .tuple vs)):=by
               unfold results;congr 1
              rw[e1,Array.mapM_eq_mapM_toList,W8];simp only[Sem.run_bind,Sem.run_map,hy,Result.andThen_ok,Sem.run_pure];simp
             obtain⟨_,_,zs,hzo,hzc⟩:=S'.rT s k _ hhp
             obtain⟨_,P0,F6⟩:=S'.Pl
             refine⟨e',rS,n',Br,rfl,S'.defers,_,qL,⟨S'.ext.os,S'.ext.tape,S'.ext.output,F6,fun b hb hnb=>?_⟩,zs, ?_, ?_,fun b hb=>?_⟩
             ·have SH:w.heap[b]? = some w.heap[b]:=Array.getElem?_eq_getElem hb
              rw[SH];exact (P0 b _ ⟨SH,fun h=>hnb h.symm⟩).1
             ·exact qQ hzo (Nat.zero_le _)
             ·exact⟨hzc.len,fun i x y hx hy=>(hzc.rel i x y hx hy).Rf (hmf x (List.mem_of_getElem? hx)),hzc.one⟩
             ·by_cases h1:cM v0=some b
              ·exact .inl h1
              ·right
               rcases Nat.lt_or_ge b w.heap.size with aZ|hge
               ·exfalso
                have SH:w.heap[b]? = some w.heap[b]:=Array.getElem?_eq_getElem aZ
                exact (P0 b _ ⟨SH,h1⟩).2.2 s k _ hhp hb
               ·exact hge
            ·cases h
           ·cases h
          ·rename_i s k n0 hrv;split at h
           ·rename_i e' rS n' Br hhp
            split at h
            ·rename_i hmf;obtain⟨Hy,hcl',hmf⟩:=hmf
             simp only[Option.some.injEq] at h;subst h;obtain⟨y,hy,Rh⟩:=lW (P:=P) S' [r1] [.vw s k 0 n0] (by simp[hrv])
             have hlen:=Rh.len
             obtain⟨z,rfl⟩:∃z,y=[z]:=by
              cases y with
              | nil=>simp at hlen
              | cons y ys=>cases ys with
                | nil=>exact⟨y,rfl⟩
                | cons z zs=>simp at hlen
             obtain⟨_,_,zs,hzo,hzc⟩:=S'.rT s k _ hhp
             obtain⟨_,P0,F6⟩:=S'.Pl
             have hz:∃b cap cur,z=.slice (some ⟨b,0,none⟩) n0 cap/\cM (nX s k)=some b/\w'.heap[b]? = some (.cells cur e' (0,0))/\n0<=cap/\cap<=maxLen/\cur.size=cap * rS/\cur.toList.take (n' * rS)=zs/\0<cap:=by
              have hv:=Rh.head
              cases hv with
              | vw _ _ _ _ b cap hg hb mZ zZ =>
                have nA:cM (nX s k)=some b:=hb
                rcases hzo.2 with ⟨q,jP,hn⟩|⟨b',ES,cur,jP,uU,hh,P6,LI,Ig,ht,oV⟩
                ·rw[jP,oE] at nA;cases nA
                ·have vI:b'=b:=by rw[jP,gV oV] at nA;simpa using nA
                 subst vI;have hcc:cap=ES:=zZ rfl _ _ _ jP
                 subst hcc;exact⟨b',cap,cur,rfl,nA,hh,mZ,LI,Ig,ht,oV⟩
             obtain⟨b,cap,cur,rfl,hbk,hhb,mZ,LI,Ig,ht,oV⟩:=hz
             have qL:(results fn a'.tmps).run P w'=.ok (.slice (some ⟨b,0,none⟩) n0 cap) w':=by
              have e1:results fn a'.tmps=(do let vs <- fn.results.mapM (Ay a'.tmps);pure (if h:vs.size=1 then vs[0] else .tuple vs)):=by
               unfold results;congr 1
              rw[e1,Array.mapM_eq_mapM_toList,W8];simp only[Sem.run_bind,Sem.run_map,hy,Result.andThen_ok,Sem.run_pure];simp
             have hks:n0 * rS<=n' * rS:=Nat.mul_le_mul_right _ Hy
             refine⟨e',rS,n0,_,rfl,S'.defers,_,qL,⟨S'.ext.os,S'.ext.tape,S'.ext.output,F6,fun b hb hnb=>?_⟩,zs.take (n0 * rS), ?_, ?_,fun b1 OY=>?_⟩
             ·have SH:w.heap[b]? = some w.heap[b]:=Array.getElem?_eq_getElem hb
              rw[SH];exact (P0 b _ ⟨SH,fun h=>hnb h.symm⟩).1
             ·refine⟨by rw[List.length_take,hzo.1];omega,.inr ⟨b,cap,cur,rfl,Nat.zero_le _,hhb,mZ,LI,Ig, ?_,oV⟩⟩
              rw[<- ht,List.take_take,Nat.min_eq_left hks]
             ·have hz2:fQ (bare h0) Br zs:=⟨hzc.len,fun i x y hx hy=>(hzc.rel i x y hx hy).Rf (hmf x (List.mem_of_getElem? hx)),hzc.one⟩
              exact hz2.take _
             ·rw[gV oV] at OY;simp only[Option.some.injEq] at OY;subst OY;by_cases h1:cM v0=some b
              ·exact .inl h1
              ·right
               rcases Nat.lt_or_ge b w.heap.size with aZ|hge
               ·exfalso
                have SH:w.heap[b]? = some w.heap[b]:=Array.getElem?_eq_getElem aZ
                exact (P0 b _ ⟨SH,h1⟩).2.2 s k _ hhp hbk
               ·exact hge
            ·cases h
           ·cases h
          ·cases h
         ·cases h
        cases ex with
        | normal=>obtain⟨e',rS,n',Br,rfl,h1,v',h2,h3,h4⟩:=fin h;exact⟨h1,v',h2,v',rfl,h3,h4⟩
        | ret=>obtain⟨e',rS,n',Br,rfl,h1,v',h2,h3,h4⟩:=fin h;exact⟨h1,v',h2,v',rfl,h3,h4⟩
        | exit id=>cases h
   ·cases h
theorem Q4 {h0:Nat->Obj->Prop} {w:World} {x:AV} {v0 v1:Value} {e sz m:Nat} {cs:List AV} {ys:List Value} {nt:Nat} (hh:∀b o,h0 b o->w.heap[b]? = some o) (gI:∀b o,h0 b o->cM v1≠some b) (ho:lO w 0 e sz v1 m ys) (hc:fQ (bare h0) cs ys) (hx:cK (bare h0) x v0) :
 kM Hx.none h0 w nt (fun s g=>if s=1/\g=0 then v1 else undef) (St.Ha x e sz m cs) { tmps:=#[v0,v1]++Array.replicate (nt-(#[v0,v1]:Array Value).size) undef,defers:=[]} w:=by
 have vH:∀s g e',(St.Ha x e sz m cs).heap s g=some e'->s=1/\g=0/\e'=.Dh e sz m cs:=fun s g e' h=>by
  simp only[St.Ha] at h;split at h
  ·rename_i h1;cases h;exact⟨h1.1,h1.2,rfl⟩
  ·cases h
 have k:(bare h0).Le (ctx h0 w (fun s g=>if s=1/\g=0 then v1 else undef) (St.Ha x e sz m cs) w) :=
  ⟨fun b o h=>⟨hh b o h,fun _=>h,fun s g e' he=>by
   obtain⟨rfl,rfl,_⟩:=vH _ _ _ he
   exact gI b o h⟩,fun _=>Nat.zero_le _,fun _ _ h=>absurd h (by simp[bare])⟩
 refine⟨fun t=>?_,fun s g e' he=>?_,fun s g s' g' e1 e2 b he zD _ _=>?_,⟨rfl,rfl,rfl,Nat.le_refl _,fun b hb _=>rfl⟩,by simp;omega,rfl,⟨fun x v h=>h.elim,fun b o h=>h.elim,Nat.zero_le _⟩⟩
 ·match t with
  | 0 =>
    have e0:(#[v0,v1]++Array.replicate (nt-(#[v0,v1]:Array Value).size) undef).getD 0 undef=v0:=by
     simp[Array.getElem?_append]
    rw[e0];exact hx.le k
  | 1 =>
    have e0:(#[v0,v1]++Array.replicate (nt-(#[v0,v1]:Array Value).size) undef).getD 1 undef=v1:=by
     simp[Array.getElem?_append]
    rw[e0];have:=cK.own (C:=ctx h0 w (fun s g=>if s=1/\g=0 then v1 else undef) (St.Ha x e sz m cs) w) 1 0 (by show 0<(St.Ha x e sz m cs).aK 1;simp[St.Ha]) (by show (if (1:Nat)=1/\(0:Nat)=0 then v1 else undef).oneCell'=true;simp;exact mW ho)
    have e1:(ctx h0 w (fun s g=>if s=1/\g=0 then v1 else undef) (St.Ha x e sz m cs) w).ρ 1 0=v1:=by show (if (1:Nat)=1/\(0:Nat)=0 then v1 else undef)=v1;simp
    rw[e1] at this;exact this
  | t+2 =>
    have e2:(#[v0,v1]++Array.replicate (nt-(#[v0,v1]:Array Value).size) undef).getD (t+2) undef=undef:=by
     rw[Array.getD_eq_getD_getElem?,Array.getElem?_append_right (by simp),Array.getElem?_replicate]
     split<;>rfl
    rw[e2];exact .v _
 ·obtain⟨rfl,rfl,rfl⟩:=vH _ _ _ he
  refine⟨by simp[St.Ha],by simp;exact mW ho, ?_⟩
  simp only[and_self,if_true];exact⟨ys,ho,hc.le k⟩
 ·obtain⟨rfl,rfl,_⟩:=vH _ _ _ he
  obtain⟨rfl,rfl,_⟩:=vH _ _ _ zD
  exact⟨rfl,rfl⟩
theorem FY {xs:List AV} {u:AV × Nat × Nat × Nat × List AV} (h:uI xs=some u):xs=[u.1,.uniq u.2.1 u.2.2.1 u.2.2.2.1 u.2.2.2.2]:=by
 unfold uI at h;split at h
 ·simp only[Option.some.injEq] at h;subst h;rfl
 ·cases h
theorem aCl (hm:P.follows .mixedOrders=true) {call:Nat->List AV->Option AV} {inl:Nat->List AV->St->Option (AV × St)} (iY:oP P call) (Md:Mw P inl) {n g:Nat} {xs:List AV} {u:AV × Nat × Nat × Nat × List AV} (hh:oD xs=none) (hq:uI xs=some u) {r:AV}
 (h:OV P call inl n g u.1 u.2.1 u.2.2.1 u.2.2.2.1 u.2.2.2.2=some r):yF P g/\Av P g xs r:=by
 have Xg:=FY hq
 subst Xg;obtain⟨x,e,sz,m,cs⟩:=u
 simp only at h hh ⊢
 unfold OV at h;cases hf:P.funcs[g]? with
 | none=>simp[hf] at h
 | some fn =>
   simp only[hf] at h;split at h
   ·rename_i qK;cases hb:fn.body with
    | none=>simp[hb] at h
    | some c =>
      simp only[hb] at h;simp only[sO,Vq,hb,Bool.and_eq_true,bne_iff_ne,ne_eq] at qK;refine⟨⟨fn,hf,by simpa using qK.1,by simp[hb]⟩, ?_⟩
      have hX:ZK P g x e sz m cs r->Av P g [x,.uniq e sz m cs] r:=fun h=>by
       unfold Av;split
       ·rename_i heq;cases heq
        cases hh
       ·rename_i heq;cases heq
        exact h
       ·rename_i h1 h2;exact absurd rfl (h2 _ _ _ _ _)
      refine hX fun w h0 v0 v1 ys hh gI ho Bl eM=>?_
      cases h1:uF P (kI c) call inl n c (St.Ha x e sz m cs) with
      | none=>simp[h1,cA] at h
      | some es =>
        obtain⟨ex,sf⟩:=es
        simp only[h1,cA] at h;refine calls_of_wp hf hb ?_
        refine oR hm iY Md n c (St.Ha x e sz m cs) sf ex _ _ w _ qK.2 (Q4 hh gI ho Bl eM) h1 fun nX a' w' S'=>?_
        have fin:iH P g fn sf=some r->a'.defers=[]/\∃v,(results fn a'.tmps).run P w'=.ok v w'/\∃v',Ending.returned v=.returned v'/\BX h0 w w' r v'/\w.grownBy w' none:=fun h=>by
         obtain⟨v,hv,hr⟩:=Mz S' h
         exact⟨S'.defers,v,hv,v,rfl,hr,S'.ext⟩
        cases ex with
        | normal=>exact fin h
        | ret=>exact fin h
        | exit id=>cases h
   ·cases h
theorem G4 (hm:P.follows .mixedOrders=true) (hx:IX P):∀n,oP P (Mm P n)/\Mw P (Yd P n)
 | 0=>⟨fun g xs r h=>hx.1 g xs r h,fun g xs st r s' h=>by cases h⟩
 | n+1=>by
   obtain⟨ihc,ihi⟩:=G4 hm hx n
   refine⟨fun g xs r h=>?_,fun g xs st r s' h=>?_⟩
   ·rw[zY] at h;split at h
    ·rename_i r' he
     simp only[Option.some.injEq] at h;subst h;exact hx.1 g xs _ he
    ·cases hq:oD xs with
     | some u =>
       simp only[hq] at h;exact aFc hm ihc ihi hq h
     | none =>
     simp only[hq] at h;cases hql:uI xs with
     | some u =>
       simp only[hql] at h;exact aCl hm ihc ihi hq hql h
     | none =>
     simp only[hql] at h;split at h
     ·cases h
     rename_i hnu;unfold H9 at h;cases hf:P.funcs[g]? with
     | none=>simp[hf] at h
     | some fn =>
       simp only[hf] at h;split at h
       ·rename_i qK;cases hb:fn.body with
        | none=>simp[hb] at h
        | some c =>
          simp only[hb] at h;simp only[sO,Vq,hb,Bool.and_eq_true,bne_iff_ne,ne_eq] at qK;have hX:Uc P g xs r->Av P g xs r:=fun h=>by
           unfold Av;split
           ·simp[oC] at hnu
           ·simp[oC] at hnu
           ·exact h
          refine⟨⟨fn,hf,by simpa using qK.1,by simp[hb]⟩,hX fun w h0 vs hh eM=>?_⟩
          cases h1:uF P (kI c) (Mm P n) (Yd P n) n c (St.init xs) with
          | none=>simp[h1,cA] at h
          | some es =>
            obtain⟨ex,sf⟩:=es
            simp only[h1,cA] at h;refine calls_of_wp hf hb ?_
            refine oR hm ihc ihi n c (St.init xs) sf ex _ _ w _ qK.2 (aCk hh eM) h1 fun nX a' w' S'=>?_
            have fin:iH P g fn sf=some r->a'.defers=[]/\∃v,(results fn a'.tmps).run P w'=.ok v w'/\∃v',Ending.returned v=.returned v'/\BX h0 w w' r v'/\w.grownBy w' none:=fun h=>by
             obtain⟨v,hv,hr⟩:=Mz S' h
             exact⟨S'.defers,v,hv,v,rfl,hr,S'.ext⟩
            cases ex with
            | normal=>exact fin h
            | ret=>exact fin h
            | exit id=>cases h
       ·cases h
   ·rw[Ii] at h;cases hxi:Ext.Wv g xs st with
    | some q =>
      rw[hxi] at h;simp only[Option.some.injEq] at h;subst h;exact hx.2 g xs st r s' hxi
    | none =>
    rw[hxi] at h;unfold I0 at h;cases hf:P.funcs[g]? with
    | none=>simp[hf] at h
    | some fn =>
      simp only[hf] at h;split at h
      ·rename_i qK;cases hb:fn.body with
       | none=>simp[hb] at h
       | some c =>
         simp only[hb] at h;simp only[Vq,hb,Bool.and_eq_true,bne_iff_ne,ne_eq] at qK;refine⟨⟨fn,hf,by simpa using qK.1,by simp[hb]⟩,fun F h0 w0 nt ρ a w vs K S eM hK=>?_⟩
         cases h1:uF P true (Mm P n) (Yd P n) n c ((St.init xs).back st) with
         | none=>simp[h1,cA] at h
         | some es =>
           obtain⟨ex,sf⟩:=es
           simp only[h1,cA] at h;refine calls_of_wp hf hb ?_
           refine oR (F:=⟨fun x v=>F.fr x v\/∃t,x=st.env t/\v=a.tmps.getD t undef,F.hb,F.sz⟩) hm ihc ihi n c ((St.init xs).back st) sf ex _ _ w _ qK.2 (aFb S eM) h1 fun nX a' w' S'=>?_
           have fin:((tE P fn sf).map fun x=>(x,sf))=some (r,s')->a'.defers=[]/\∃v,(results fn a'.tmps).run P w'=.ok v w'/\∃v',Ending.returned v=.returned v'/\K v' w':=fun h=>by
            cases hfi:tE P fn sf with
            | none=>simp[hfi] at h
            | some x =>
              simp only[hfi,Option.map_some,Option.some.injEq,Prod.mk.injEq] at h;obtain⟨rfl,rfl⟩:=h
              obtain⟨v,hv,hr⟩:=FW S' hfi
              refine⟨S'.defers,v,hv,v,rfl,hK nX w' v ?_ hr⟩
              exact⟨fun t=>S'.Pl.1 _ _ (.inr ⟨t,rfl,rfl⟩),fun s g e he=>S'.rT s g e he,fun s g s2 g' e e' b he zD=>S'.inj s g s2 g' e e' b he zD,S'.ext,S.size,S.defers,⟨fun x v h=>S'.Pl.1 x v (.inl h),S'.Pl.2.1,S'.Pl.2.2⟩⟩
           cases ex with
           | normal=>exact fin h
           | ret=>exact fin h
           | exit id=>cases h
      ·cases h
theorem aCm (hm:P.follows .mixedOrders=true) (hx:IX P) (n:Nat):oP P (Mm P n):=(G4 hm hx n).1
end
end Go.Ab
end
section
namespace Go.Ab
open Classical
variable [Ext]
noncomputable def kF {α:Type} (g:Nat->Option α):Option α:=if h:∃n r,g n=some r then some (Classical.choose (Classical.choose_spec h)) else none
theorem Yv {α:Type} {g:Nat->Option α} (hm:∀n r,g n=some r->g (n+1)=some r) {n m:Nat} (h:n<=m) {r:α} (hr:g n=some r):g m=some r:=by
 induction m with
 | zero=>have:n=0:=by omega
         subst this;exact hr
 | succ m ih =>
   rcases Nat.lt_or_ge m n with h'|h'
   ·have:n=m+1:=by omega
    subst this;exact hr
   ·exact hm m r (ih h')
theorem MJ {α:Type} {g:Nat->Option α} (hm:∀n r,g n=some r->g (n+1)=some r) (r:α):kF g=some r↔∃n,g n=some r:=by
 unfold kF;constructor
 ·intro h;split at h
  ·rename_i hh;simp only[Option.some.injEq] at h;exact⟨Classical.choose hh,by rw[<- h];exact Classical.choose_spec (Classical.choose_spec hh)⟩
  ·cases h
 ·rintro⟨n,hn⟩
  have hh:∃n r,g n=some r:=⟨n,r,hn⟩
  rw[dif_pos hh];have h2:=Classical.choose_spec (Classical.choose_spec hh)
  congr 1
  rcases Nat.le_total n (Classical.choose hh) with hle|hle
  ·have:=Yv hm hle hn
   rw[h2] at this;exact Option.some.inj this
  ·have:=Yv hm hle h2
   rw[hn] at this;exact (Option.some.inj this).symm
theorem fG {α β:Type} {x:Option α} {f:α->Option β} {r:β}:cA x f=some r↔∃a,x=some a/\f a=some r:=by
 cases x<;>simp[cA]
def CR (i i':Nat->List AV->St->Option (AV × St)):Prop:=∀g xs st r,i g xs st=some r->i' g xs st=some r
def uY (c c':Nat->List AV->Option AV):Prop:=∀g xs r,c g xs=some r->c' g xs=some r
section
variable (P:Program) {c c':Nat->List AV->Option AV} {i i':Nat->List AV->St->Option (AV × St)} {bi:Bool}
theorem CS {α β:Type} {x y:Option α} {f:α->Option β} {r:β} (h:∀a,x=some a->y=some a) (hx:cA x f=some r):cA y f=some r:=by
 cases Ic:x with
 | none=>simp[Ic,cA] at hx
 | some a=>rw[h a Ic];rw[Ic] at hx;exact hx
theorem xO (h:uY c c') {g:Nat} {args:List AV} {st:St} {dst:Option Nat} {e:mA} (he:aN c g args st dst=some e):aN c' g args st dst=some e:=by
 unfold aN at *
 split at he
 ·rename_i hf;rw[if_pos hf];exact CS (h g args) he
 ·rename_i hf;rw[if_neg hf];split at he
  ·rename_i xs Xg;exact CS (h g xs) he
  ·cases he
theorem TA (h:uY c c') {g:Nat} {args:List AV} {st:St} {dst:Option Nat} {e:mA} (he:kN c g args st dst=some e):kN c' g args st dst=some e:=by
 unfold kN at *
 split at he
 ·split at he
  ·rename_i e0 sz n cs hh;split at he
   ·rename_i hc;rename_i rest _;simp only[hh,if_pos hc];cases hr:c g (.uniq e0 sz n cs :: rest) with
    | none=>simp[hr] at he
    | some r=>rw[h _ _ _ hr];rw[hr] at he;exact he
   ·cases he
  ·cases he
 ·split at he
  ·rename_i hc;rw[if_pos hc];exact xO h he
  ·cases he
theorem MK (h:uY c c') {g:Nat} {args:List AV} {st:St} {dst:Option Nat} {e:mA} (he:eY c g args st dst=some e):eY c' g args st dst=some e:=by
 unfold eY at *
 split at he
 ·rename_i s k hk;split at he
  ·rename_i qK;rw[if_pos qK];split at he
   ·rename_i xs Xg;exact CS (h g xs) he
   ·cases he
  ·cases he
 ·rename_i hk;exact xO h he
theorem TB (h:uY c c') {g:Nat} {args:List AV} {st:St} {dst:Option Nat} {e:mA} (he:uH c g args st dst=some e):uH c' g args st dst=some e:=by
 unfold uH at *
 split at he
 ·split at he
  ·split at he
   ·rename_i hc;rw[if_pos hc];split at he
    ·rename_i r hr;rw[h _ _ _ hr];exact he
    ·cases he
   ·cases he
  ·cases he
 ·rename_i hn;split at he
  ·rename_i hc;rw[if_pos hc];exact xO h he
  ·cases he
theorem ML (h:uY c c') {f:Operand} {args:List AV} {st:St} {dst:Option Nat} {e:mA} (he:mP c f args st dst=some e):mP c' f args st dst=some e:=by
 cases f
 case func g =>
  simp only[mP] at *
  by_cases hm:Ext.mv g=true
  ·rw[if_pos hm] at *
   exact TA h he
  ·rw[if_neg hm] at *
   by_cases hm2:Ext.eat g dst=true
   ·rw[if_pos hm2] at *
    exact MK h he
   ·rw[if_neg hm2] at *
    by_cases hm3:Ext.WN g dst=true
    ·rw[if_pos hm3] at *
     exact TB h he
    ·rw[if_neg hm3] at *
     exact xO h he
 all_goals
  simp only[mP] at *
  split at he
  ·exact xO h he
  ·cases he
theorem l5 (h:uY c c') {o:Oper} {st:St} {e:mA} (he:cZ P c o st=some e):cZ P c' o st=some e:=by
 obtain⟨dst,op,type,pos,after,guard⟩:=o
 cases op
 case call cl =>
  simp only[cZ] at *
  unfold hU at *
  split at he
  ·exact ML h he
  all_goals exact he
 case makeMap T r=>cases r<;>exact he
 all_goals exact he
theorem Q5 (h:uY c c') {ops:Array Oper} {o:Oper} {st s:St} (he:cE P c ops o st=some s):cE P c' ops o st=some s:=by
 unfold cE at *
 split at he
 ·split at he
  ·rename_i b hg hb;rw[if_pos hb];cases h1:cZ P c o st with
   | none=>simp[h1] at he
   | some e=>rw[l5 P h h1];rw[h1] at he;exact he
  ·rename_i b hg hb;rw[if_neg hb];exact he
 ·cases he
theorem CT (h:uY c c') (hi:CR i i') {ops:Array Oper} {o:Oper} {st s:St} (he:gG P bi c i ops o st=some s):gG P bi c' i' ops o st=some s:=by
 unfold gG at he ⊢
 cases hg:(if bi=true then Dj o else none) with
 | none =>
   simp only[hg] at he ⊢;exact Q5 P h he
 | some ga =>
   obtain⟨g,args⟩:=ga
   simp only[hg] at he ⊢;cases hgv:gv ops st o.guard with
   | none=>simp[hgv] at he
   | some t =>
     simp only[hgv] at he ⊢;cases t with
     | false=>exact he
     | true =>
       simp only[if_true] at he ⊢;cases h1:i g (args.map st.ev) st with
       | none=>simp[h1] at he
       | some r=>rw[hi _ _ _ _ h1];rw[h1] at he;exact he
theorem Ck (h:uY c c') (hi:CR i i') {ops:Array Oper}:∀(l:List Oper) {st s:St},lI P bi c i ops l st=some s->lI P bi c' i' ops l st=some s
 | [],st,s,he=>he
 | o :: l,st,s,he=>by
   simp only[lI] at *
   obtain⟨s1,h1,h2⟩:=fG.1 he
   exact fG.2 ⟨s1,CT P h hi h1,Ck h hi l h2⟩
theorem nJ (h:uY c c') (hi:CR i i'):∀(n m:Nat),n<=m->∀(x:Code) (st:St) (r:Ex × St),uF P bi c i n x st=some r->uF P bi c' i' m x st=some r
 | 0,_,_,_,_,_,he=>by simp[uF] at he
 | n+1,0,hle,_,_,_,_=>by omega
 | n+1,m+1,hle,x,st,r,he=>by
   have ih:=nJ h hi n m (by omega)
   cases x<;>simp only[uF] at he ⊢<;>(try exact he)
   case region id ops draw =>
    obtain⟨s1,h1,h2⟩:=fG.1 he
    exact fG.2 ⟨s1,Ck P h hi _ h1,h2⟩
   case seq a b =>
    obtain⟨⟨e1,s1⟩,h1,h2⟩:=fG.1 he
    refine fG.2 ⟨(e1,s1),ih _ _ _ h1, ?_⟩
    cases e1 with
    | normal=>exact ih _ _ _ h2
    | _=>exact h2
   case cond cc a b =>
    split at he
    ·split at he
     ·rename_i hb;rw[if_pos hb];exact ih _ _ _ he
     ·rename_i hb;rw[if_neg hb];exact ih _ _ _ he
    ·cases he
   case block id b =>
    obtain⟨r1,h1,h2⟩:=fG.1 he
    exact fG.2 ⟨r1,ih _ _ _ h1,h2⟩
   case loop b =>
    obtain⟨⟨e1,s1⟩,h1,h2⟩:=fG.1 he
    refine fG.2 ⟨(e1,s1),ih _ _ _ h1, ?_⟩
    cases e1 with
    | normal=>exact ih _ _ _ h2
    | _=>exact h2
theorem Uo:∀n,uY (Mm P n) (Mm P (n+1))/\CR (Yd P n) (Yd P (n+1))
 | 0=>⟨fun g xs r h=>by
   rw[Zb] at h;rw[zY,h],fun g xs st r h=>by cases h⟩
 | n+1=>by
   obtain⟨ih,ii⟩:=Uo n
   refine⟨fun g xs r h=>?_,fun g xs st r h=>?_⟩
   ·rw[zY] at h ⊢;cases he:Ext.ext g xs with
    | some r'=>rw[he] at h;exact h
    | none =>
      simp only[he] at h;simp only
      cases hq:oD xs with
      | some u =>
        simp only[hq] at h;simp only
        unfold runM at h ⊢
        split at h
        ·split at h
         ·rename_i qK;rw[if_pos qK];split at h
          ·obtain⟨r1,h1,h2⟩:=fG.1 h
           exact fG.2 ⟨r1,nJ P ih ii n (n+1) (by omega) _ _ _ h1,h2⟩
          ·cases h
         ·cases h
        ·cases h
      | none =>
        simp only[hq] at h;simp only
        cases hql:uI xs with
        | some u =>
          simp only[hql] at h;simp only
          unfold OV at h ⊢
          split at h
          ·split at h
           ·rename_i qK;rw[if_pos qK];split at h
            ·obtain⟨r1,h1,h2⟩:=fG.1 h
             exact fG.2 ⟨r1,nJ P ih ii n (n+1) (by omega) _ _ _ h1,h2⟩
            ·cases h
           ·cases h
          ·cases h
        | none =>
        simp only[hql] at h;simp only
        by_cases hu:xs.any oC=true
        ·rw[if_pos hu] at h;cases h
        ·rw[if_neg hu] at h ⊢;unfold H9 at h ⊢
         split at h
         ·split at h
          ·rename_i qK;rw[if_pos qK];split at h
           ·obtain⟨r1,h1,h2⟩:=fG.1 h
            exact fG.2 ⟨r1,nJ P ih ii n (n+1) (by omega) _ _ _ h1,h2⟩
           ·cases h
          ·cases h
         ·cases h
   ·rw[Ii] at h ⊢;split at h
    ·exact h
    unfold I0 at h ⊢
    split at h
    ·split at h
     ·rename_i qK;rw[if_pos qK];split at h
      ·obtain⟨r1,h1,h2⟩:=fG.1 h
       exact fG.2 ⟨r1,nJ P ih ii n (n+1) (by omega) _ _ _ h1,h2⟩
      ·cases h
     ·cases h
    ·cases h
theorem CU (n:Nat):uY (Mm P n) (Mm P (n+1)):=(Uo P n).1
theorem CV (n:Nat):CR (Yd P n) (Yd P (n+1)):=(Uo P n).2
theorem Db {n m:Nat} (h:n<=m):uY (Mm P n) (Mm P m):=fun g xs r hr =>
 Yv (g:=fun n=>Mm P n g xs) (fun n r=>CU P n g xs r) h hr
theorem Dc {n m:Nat} (h:n<=m):CR (Yd P n) (Yd P m):=fun g xs st r hr =>
 Yv (g:=fun n=>Yd P n g xs st) (fun n r=>CV P n g xs st r) h hr
noncomputable def aC (f:Nat) (xs:List AV):Option AV:=kF fun n=>Mm P n f xs
noncomputable def rK (f:Nat) (xs:List AV) (st:St):Option (AV × St):=kF fun n=>Yd P n f xs st
noncomputable def wW (bi:Bool) (x:Code) (st:St):Option (Ex × St):=kF fun n=>uF P bi (Mm P n) (Yd P n) n x st
theorem tY {f:Nat} {xs:List AV} {r:AV}:aC P f xs=some r↔∃n,Mm P n f xs=some r:=MJ (fun n r=>CU P n f xs r) r
theorem Rp {f:Nat} {xs:List AV} {st:St} {r:AV × St}:rK P f xs st=some r↔∃n,Yd P n f xs st=some r:=MJ (fun n r=>CV P n f xs st r) r
theorem gL {x:Code} {st:St} {r:Ex × St}:wW P bi x st=some r↔∃n m,uF P bi (Mm P n) (Yd P n) m x st=some r:=by
 unfold wW;rw[MJ (fun n r=>nJ P (CU P n) (CV P n) n (n+1) (by omega) x st r)]
 constructor
 ·rintro⟨n,h⟩;exact⟨n,n,h⟩
 ·rintro⟨n,m,h⟩
  exact⟨max n m,nJ P (Db P (Nat.le_max_left n m)) (Dc P (Nat.le_max_left n m)) m _ (Nat.le_max_right n m) x st r h⟩
theorem BS (hm:P.follows .mixedOrders=true) (hx:IX P) {f:Nat} {xs:List AV} {r:AV} (h:aC P f xs=some r):Av P f xs r:=by
 obtain⟨n,hn⟩:=(tY P).1 h
 exact (aCm hm hx n f xs r hn).2
theorem aFd (n:Nat):CR (Yd P n) (rK P):=fun g xs st r h=>(Rp P).2 ⟨n,h⟩
theorem aCn (n:Nat):uY (Mm P n) (aC P):=fun g xs r h=>(tY P).2 ⟨n,h⟩
theorem MM {β:Type} {g:Nat} {xs:List AV} {f:AV->Option β} {r:β} (h:cA (aC P g xs) f=some r):∃n,cA (Mm P n g xs) f=some r:=by
 obtain⟨a,h1,h2⟩:=fG.1 h
 obtain⟨n,hn⟩:=(tY P).1 h1
 exact⟨n,fG.2 ⟨a,hn,h2⟩⟩
theorem Az {g:Nat} {args:List AV} {st:St} {dst:Option Nat} {e:mA} (h:aN (aC P) g args st dst=some e):∃n,aN (Mm P n) g args st dst=some e:=by
 unfold aN at h ⊢
 split at h
 ·rename_i hf;obtain⟨n,hn⟩:=MM P h
  exact⟨n,by rw[if_pos hf];exact hn⟩
 ·rename_i hf;split at h
  ·rename_i xs Xg;obtain⟨n,hn⟩:=MM P h
   exact⟨n,by rw[if_neg hf];exact hn⟩
  ·cases h
theorem l6 {g:Nat} {args:List AV} {st:St} {dst:Option Nat} {e:mA} (h:kN (aC P) g args st dst=some e):∃n,kN (Mm P n) g args st dst=some e:=by
 unfold kN at h ⊢
 split at h
 ·rename_i s k rest;split at h
  ·rename_i e0 sz n cs hh;split at h
   ·rename_i hc;simp only[hh,if_pos hc];cases hr:aC P g (.uniq e0 sz n cs :: rest) with
    | none=>simp[hr] at h
    | some r =>
      obtain⟨m,hm⟩:=(tY P).1 hr
      exact⟨m,by rw[hm];rw[hr] at h;exact h⟩
   ·cases h
  ·cases h
 ·split at h
  ·rename_i hc;simp only[if_pos hc];exact Az P h
  ·cases h
theorem TC {g:Nat} {args:List AV} {st:St} {dst:Option Nat} {e:mA} (h:eY (aC P) g args st dst=some e):∃n,eY (Mm P n) g args st dst=some e:=by
 unfold eY at h ⊢
 split at h
 ·rename_i s k hk;split at h
  ·rename_i qK;simp only[if_pos qK];split at h
   ·rename_i xs Xg;exact MM P h
   ·cases h
  ·cases h
 ·rename_i hk;obtain⟨n,hn⟩:=Az P h
  exact⟨n,hn⟩
theorem l7 {g:Nat} {args:List AV} {st:St} {dst:Option Nat} {e:mA} (h:uH (aC P) g args st dst=some e):∃n,uH (Mm P n) g args st dst=some e:=by
 unfold uH at h ⊢
 split at h
 ·split at h
  ·split at h
   ·rename_i hc;split at h
    ·rename_i r hr;obtain⟨n,hn⟩:=(tY P).1 hr
     exact⟨n,by rw[if_pos hc,hn];exact h⟩
    ·cases h
   ·cases h
  ·cases h
 ·split at h
  ·rename_i hc;obtain⟨n,hn⟩:=Az P h
   exact⟨n,by rw[if_pos hc];exact hn⟩
  ·cases h
theorem Q6 {o:Oper} {st:St} {e:mA} (h:cZ P (aC P) o st=some e):∃n,cZ P (Mm P n) o st=some e:=by
 obtain⟨dst,op,type,pos,after,guard⟩:=o
 cases op
 case call cl =>
  simp only[cZ] at *
  unfold hU at *
  split at h
  ·unfold mP at h ⊢
   split at h
   ·split at h
    ·rename_i hm;obtain⟨n,hn⟩:=l6 P h
     exact⟨n,by simp only[hm,if_true];exact hn⟩
    ·rename_i hm;split at h
     ·rename_i hm2;obtain⟨n,hn⟩:=TC P h
      exact⟨n,by rw[if_neg hm,if_pos hm2];exact hn⟩
     ·rename_i hm2;split at h
      ·rename_i hm3;obtain⟨n,hn⟩:=l7 P h
       exact⟨n,by rw[if_neg hm,if_neg hm2,if_pos hm3];exact hn⟩
      ·rename_i hm3;obtain⟨n,hn⟩:=Az P h
       exact⟨n,by rw[if_neg hm,if_neg hm2,if_neg hm3];exact hn⟩
   ·split at h
    ·exact Az P h
    ·cases h
  all_goals exact⟨0,h⟩
 case makeMap T r=>cases r<;>exact⟨0,h⟩
 all_goals exact⟨0,h⟩
theorem aCo {ops:Array Oper} {o:Oper} {st s:St} (h:cE P (aC P) ops o st=some s):∃n,cE P (Mm P n) ops o st=some s:=by
 unfold cE at *
 split at h
 ·split at h
  ·rename_i b hg hb;cases h1:cZ P (aC P) o st with
   | none=>simp[h1] at h
   | some e =>
     obtain⟨n,hn⟩:=Q6 P h1
     refine⟨n, ?_⟩
     rw[if_pos hb,hn];rw[h1] at h;exact h
  ·rename_i b hg hb;exact⟨0,by rw[if_neg hb];exact h⟩
 ·cases h
theorem Q7 {ops:Array Oper} {o:Oper} {st s:St} (h:gG P bi (aC P) (rK P) ops o st=some s):∃n,gG P bi (Mm P n) (Yd P n) ops o st=some s:=by
 unfold gG at h ⊢
 cases hg:(if bi=true then Dj o else none) with
 | none =>
   simp only[hg] at h ⊢;exact aCo P h
 | some ga =>
   obtain⟨g,args⟩:=ga
   simp only[hg] at h ⊢;cases hgv:gv ops st o.guard with
   | none=>simp[hgv] at h
   | some t =>
     simp only[hgv] at h ⊢;cases t with
     | false=>exact⟨0,h⟩
     | true =>
       simp only[if_true] at h ⊢;cases h1:rK P g (args.map st.ev) st with
       | none=>simp[h1] at h
       | some r =>
         obtain⟨n,hn⟩:=(Rp P).1 h1
         refine⟨n, ?_⟩
         rw[h1] at h;rw[hn];exact h
theorem CW {ops:Array Oper}:∀(l:List Oper) {st s:St},lI P bi (aC P) (rK P) ops l st=some s->∃n,lI P bi (Mm P n) (Yd P n) ops l st=some s
 | [],st,s,h=>⟨0,h⟩
 | o :: l,st,s,h=>by
   simp only[lI] at *
   obtain⟨s1,h1,h2⟩:=fG.1 h
   obtain⟨n,hn⟩:=Q7 P h1
   obtain⟨m,hm⟩:=CW l h2
   exact⟨max n m,fG.2 ⟨s1,CT P (Db P (Nat.le_max_left n m)) (Dc P (Nat.le_max_left n m)) hn,Ck P (Db P (Nat.le_max_right n m)) (Dc P (Nat.le_max_right n m)) l hm⟩⟩
theorem Rq {cc:Nat->List AV->Option AV} {ii:Nat->List AV->St->Option (AV × St)} {ops:Array Oper}:∀(l:List Oper) (st:St),lI P false cc ii ops l st=Pp P cc ops l st
 | [],st=>rfl
 | o :: l,st=>by
   have e:∀s,gG P false cc ii ops o s=cE P cc ops o s:=fun s=>rfl
   unfold lI Pp;rw[e];congr 1
   funext s
   exact Rq l s
theorem BM (st:St):wW P bi .skip st=some (.normal,st):=(gL P).2 ⟨0,1,rfl⟩
theorem BP (id:Nat) (st:St):wW P bi (.exit id) st=some (.exit id,st):=(gL P).2 ⟨0,1,rfl⟩
theorem LG (st:St):wW P bi .ret st=some (.ret,st):=(gL P).2 ⟨0,1,rfl⟩
theorem Oi (id:Nat) (ops:Array Oper) (d:Bool) (st:St):wW P bi (.region id ops d) st=cA (lI P bi (aC P) (rK P) ops ops.toList st) fun s=>if bi=true/\¬pB ops s (Ext.dyn id ops.size (pO ops)) then none else some (.normal,s):=by
 apply Option.ext
 intro r;rw[gL,fG];constructor
 ·rintro⟨n,m,h⟩
  cases m with
  | zero=>simp[uF] at h
  | succ m =>
    simp only[uF] at h;obtain⟨s1,h1,h2⟩:=fG.1 h
    exact⟨s1,Ck P (aCn P n) (aFd P n) _ h1,h2⟩
 ·rintro⟨s1,h1,h2⟩
  obtain⟨n,hn⟩:=CW P _ h1
  exact⟨n,1,by simp only[uF];exact fG.2 ⟨s1,hn,h2⟩⟩
def Qy (r:Ex × St) (k:St->Option (Ex × St)):Option (Ex × St) :=
 match r.1 with
 | .normal=>k r.2
 | e=>some (e,r.2)
theorem Yq (a b:Code) (st:St):wW P bi (.seq a b) st=cA (wW P bi a st) fun r=>Qy r (wW P bi b):=by
 apply Option.ext
 intro r;rw[gL,fG];constructor
 ·rintro⟨n,m,h⟩
  cases m with
  | zero=>simp[uF] at h
  | succ m =>
    simp only[uF] at h;obtain⟨⟨e1,s1⟩,h1,h2⟩:=fG.1 h
    refine⟨(e1,s1),(gL P).2 ⟨n,m,h1⟩, ?_⟩
    cases e1 with
    | normal=>exact (gL P).2 ⟨n,m,h2⟩
    | _=>exact h2
 ·rintro⟨⟨e1,s1⟩,h1,h2⟩
  obtain⟨n1,m1,h1⟩:=(gL P).1 h1
  cases e1 with
  | normal =>
    obtain⟨n2,m2,h2⟩:=(gL P).1 h2
    refine⟨max n1 n2,max m1 m2+1, ?_⟩
    simp only[uF];exact fG.2 ⟨(.normal,s1),nJ P (Db P (Nat.le_max_left _ _)) (Dc P (Nat.le_max_left _ _)) _ _ (Nat.le_max_left _ _) _ _ _ h1,nJ P (Db P (Nat.le_max_right _ _)) (Dc P (Nat.le_max_right _ _)) _ _ (Nat.le_max_right _ _) _ _ _ h2⟩
  | exit id=>exact⟨n1,m1+1,by simp only[uF];exact fG.2 ⟨(.exit id,s1),h1,h2⟩⟩
  | ret=>exact⟨n1,m1+1,by simp only[uF];exact fG.2 ⟨(.ret,s1),h1,h2⟩⟩
theorem BO (b:Code) (st:St):wW P bi (.loop b) st=cA (wW P bi b st) fun r=>Qy r (wW P bi (.loop b)):=by
 apply Option.ext
 intro r;rw[gL,fG];constructor
 ·rintro⟨n,m,h⟩
  cases m with
  | zero=>simp[uF] at h
  | succ m =>
    simp only[uF] at h;obtain⟨⟨e1,s1⟩,h1,h2⟩:=fG.1 h
    refine⟨(e1,s1),(gL P).2 ⟨n,m,h1⟩, ?_⟩
    cases e1 with
    | normal=>exact (gL P).2 ⟨n,m,h2⟩
    | _=>exact h2
 ·rintro⟨⟨e1,s1⟩,h1,h2⟩
  obtain⟨n1,m1,h1⟩:=(gL P).1 h1
  cases e1 with
  | normal =>
    obtain⟨n2,m2,h2⟩:=(gL P).1 h2
    refine⟨max n1 n2,max m1 m2+1, ?_⟩
    simp only[uF];exact fG.2 ⟨(.normal,s1),nJ P (Db P (Nat.le_max_left _ _)) (Dc P (Nat.le_max_left _ _)) _ _ (Nat.le_max_left _ _) _ _ _ h1,nJ P (Db P (Nat.le_max_right _ _)) (Dc P (Nat.le_max_right _ _)) _ _ (Nat.le_max_right _ _) _ _ _ h2⟩
  | exit id=>exact⟨n1,m1+1,by simp only[uF];exact fG.2 ⟨(.exit id,s1),h1,h2⟩⟩
  | ret=>exact⟨n1,m1+1,by simp only[uF];exact fG.2 ⟨(.ret,s1),h1,h2⟩⟩
theorem Ua (id:Nat) (b:Code) (st:St):wW P bi (.block id b) st=cA (wW P bi b st) fun r=>some (r.1.inBlock id,r.2):=by
 apply Option.ext
 intro r;rw[gL,fG];constructor
 ·rintro⟨n,m,h⟩
  cases m with
  | zero=>simp[uF] at h
  | succ m =>
    simp only[uF] at h;obtain⟨r1,h1,h2⟩:=fG.1 h
    exact⟨r1,(gL P).2 ⟨n,m,h1⟩,h2⟩
 ·rintro⟨r1,h1,h2⟩
  obtain⟨n1,m1,h1⟩:=(gL P).1 h1
  exact⟨n1,m1+1,by simp only[uF];exact fG.2 ⟨r1,h1,h2⟩⟩
theorem BN (c:Operand) (a b:Code) (st:St) {t:Bool} (hc:st.ev c=.v (.bool t)):wW P bi (.cond c a b) st=if t=true then wW P bi a st else wW P bi b st:=by
 apply Option.ext
 intro r;rw[gL];constructor
 ·rintro⟨n,m,h⟩
  cases m with
  | zero=>simp[uF] at h
  | succ m =>
    simp only[uF,hc] at h;split at h
    ·rename_i hb;rw[if_pos hb];exact (gL P).2 ⟨n,m,h⟩
    ·rename_i hb;rw[if_neg hb];exact (gL P).2 ⟨n,m,h⟩
 ·intro h;split at h
  ·rename_i hb;obtain⟨n,m,h⟩:=(gL P).1 h
   exact⟨n,m+1,by simp only[uF,hc];rw[if_pos hb];exact h⟩
  ·rename_i hb;obtain⟨n,m,h⟩:=(gL P).1 h
   exact⟨n,m+1,by simp only[uF,hc];rw[if_neg hb];exact h⟩
noncomputable def Ac (x:Code) (st:St):Option (Ex × St):=wW P false x st
theorem G5 {x:Code} {st:St} {r:Ex × St}:Ac P x st=some r↔∃n m,uF P false (Mm P n) (Yd P n) m x st=some r:=gL P
theorem Ek (st:St):Ac P .skip st=some (.normal,st):=BM P st
theorem El (id:Nat) (st:St):Ac P (.exit id) st=some (.exit id,st):=BP P id st
theorem Ld (st:St):Ac P .ret st=some (.ret,st):=LG P st
theorem wK (id:Nat) (ops:Array Oper) (d:Bool) (st:St):Ac P (.region id ops d) st=cA (Pp P (aC P) ops ops.toList st) fun s=>some (.normal,s):=by
 rw[<- Rq P (ii:=rK P)];have h:=Oi P (bi:=false) id ops d st
 simp only[Bool.false_eq_true,false_and,if_false] at h;exact h
theorem Lf (a b:Code) (st:St):Ac P (.seq a b) st=cA (Ac P a st) fun r=>Qy r (Ac P b):=Yq P a b st
theorem Io (b:Code) (st:St):Ac P (.loop b) st=cA (Ac P b st) fun r=>Qy r (Ac P (.loop b)):=BO P b st
theorem zN (id:Nat) (b:Code) (st:St):Ac P (.block id b) st=cA (Ac P b st) fun r=>some (r.1.inBlock id,r.2):=Ua P id b st
theorem aCp (c:Operand) (a b:Code) (st:St) {t:Bool} (hc:st.ev c=.v (.bool t)):Ac P (.cond c a b) st=if t=true then Ac P a st else Ac P b st:=BN P c a b st hc
noncomputable def Bk (f:Nat) (fn:Func) (r:Ex × St):Option AV :=
 match r.1 with
 | .exit _=>none
 | _=>iH P f fn r.2
def bF (fn:Func):Bool:=sO fn && (match fn.body with|some c=>!kI c|none=>true)
theorem Na {xs:List AV} (h:xs.any oC=false):oD xs=none:=by
 cases xs with
 | nil=>rfl
 | cons x xs =>
   cases x<;>first|rfl|simp[oC] at h
theorem Nb {xs:List AV} (h:xs.any oC=false):uI xs=none:=by
 unfold uI;split
 ·simp[oC] at h
 ·rfl
noncomputable def aAs (fn:Func) (r:Ex × St):Option AV :=
 match r.1 with
 | .exit _=>none
 | _=>Bs P fn r.2
theorem AQ {f:Nat} {fn:Func} {c:Code} (hf:P.funcs[f]? = some fn) (hb:fn.body=some c) (qK:sO fn=true) (e sz m:Nat) (cs xs:List AV) (hx:Ext.ext f (.uniq e sz m cs :: xs)=none) :
 aC P f (.uniq e sz m cs :: xs)=cA (wW P (kI c) c (St.oB e sz m cs xs)) (aAs P fn):=by
 apply Option.ext
 intro r;rw[tY,fG];have hq:oD (.uniq e sz m cs :: xs)=some (e,sz,m,cs,xs):=rfl
 constructor
 ·rintro⟨n,h⟩
  cases n with
  | zero=>rw[Zb,hx] at h;cases h
  | succ n =>
    simp only[zY,hx,hq,runM,hf,qK,hb,if_true] at h;obtain⟨r1,h1,h2⟩:=fG.1 h
    exact⟨r1,(gL P).2 ⟨n,n,h1⟩,h2⟩
 ·rintro⟨r1,h1,h2⟩
  obtain⟨n,m',h1⟩:=(gL P).1 h1
  refine⟨max n m'+1, ?_⟩
  simp only[zY,hx,hq,runM,hf,qK,hb,if_true];exact fG.2 ⟨r1,nJ P (Db P (Nat.le_max_left _ _)) (Dc P (Nat.le_max_left _ _)) _ _ (Nat.le_max_right _ _) _ _ _ h1,h2⟩
theorem BR {f:Nat} {fn:Func} {c:Code} (hf:P.funcs[f]? = some fn) (hb:fn.body=some c) (qK:sO fn=true) (xs:List AV) (hx:Ext.ext f xs=none) (hu:xs.any oC=false):aC P f xs=cA (wW P (kI c) c (St.init xs)) (Bk P f fn):=by
 apply Option.ext
 intro r;rw[tY,fG];constructor
 ·rintro⟨n,h⟩
  cases n with
  | zero=>rw[Zb,hx] at h;cases h
  | succ n =>
    simp only[zY,hx,Na hu,Nb hu,hu,H9,hf,qK,hb,if_true] at h;obtain⟨r1,h1,h2⟩:=fG.1 h
    exact⟨r1,(gL P).2 ⟨n,n,h1⟩,h2⟩
 ·rintro⟨r1,h1,h2⟩
  obtain⟨n,m,h1⟩:=(gL P).1 h1
  refine⟨max n m+1, ?_⟩
  simp only[zY,hx,Na hu,Nb hu,hu,H9,hf,qK,hb,if_true];exact fG.2 ⟨r1,nJ P (Db P (Nat.le_max_left _ _)) (Dc P (Nat.le_max_left _ _)) _ _ (Nat.le_max_right _ _) _ _ _ h1,h2⟩
theorem Qw {f:Nat} {fn:Func} {c:Code} (hf:P.funcs[f]? = some fn) (hb:fn.body=some c) (qK:bF fn=true) (xs:List AV) (hx:Ext.ext f xs=none) (hu:xs.any oC=false):aC P f xs=cA (Ac P c (St.init xs)) (Bk P f fn):=by
 simp only[bF,hb,Bool.and_eq_true,Bool.not_eq_true'] at qK;rw[BR P hf hb qK.1 xs hx hu,qK.2];rfl
noncomputable def aJp (fn:Func) (r:Ex × St):Option (AV × St) :=
 match r.1 with
 | .exit _=>none
 | _=>(tE P fn r.2).map fun x=>(x,r.2)
theorem Kt {f:Nat} {fn:Func} {c:Code} (hf:P.funcs[f]? = some fn) (hb:fn.body=some c) (qK:Vq true fn=true) (xs:List AV) (st:St) (hx:Ext.Wv f xs st=none:=by rfl):rK P f xs st=cA (wW P true c ((St.init xs).back st)) (aJp P fn):=by
 apply Option.ext
 intro r;rw[Rp,fG];constructor
 ·rintro⟨n,h⟩
  cases n with
  | zero=>rw[X9] at h;cases h
  | succ n =>
    simp only[Ii,hx,I0,hf,qK,hb,if_true] at h;obtain⟨r1,h1,h2⟩:=fG.1 h
    exact⟨r1,(gL P).2 ⟨n,n,h1⟩,h2⟩
 ·rintro⟨r1,h1,h2⟩
  obtain⟨n,m,h1⟩:=(gL P).1 h1
  refine⟨max n m+1, ?_⟩
  simp only[Ii,hx,I0,hf,qK,hb,if_true];exact fG.2 ⟨r1,nJ P (Db P (Nat.le_max_left _ _)) (Dc P (Nat.le_max_left _ _)) _ _ (Nat.le_max_right _ _) _ _ _ h1,h2⟩
theorem aA6 {f:Nat} {xs:List AV} {st:St} {r:AV × St} (h:Ext.Wv f xs st=some r):rK P f xs st=some r:=(Rp P).2 ⟨1,by rw[Ii,h]⟩
end
end Go.Ab
end
