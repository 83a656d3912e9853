/-
  Part 4 of the proof: an evaluator of programs, its soundness, and what functions of this program compute.
-/
import Derived.Test.YtmcjkemalibacaaGreatK3
set_option linter.all false
set_option maxRecDepth 20000
set_option maxHeartbeats 40000000
section
namespace Go.Ab
open Classical
variable [Ext]
def Zp (ops:Array Oper) (acc:Array Nat):Prop :=
 ∀j o,j<acc.size→ops[j]? = some o→∀k,(acc.getD j 0).testBit k=true→∃e∈o.after,Region.binds .any e=true∧(e.on=k∨(acc.getD e.on 0).testBit k=true)
theorem GP (acc:Array Nat) (k:Nat):∀(l:List Edge) (s:Nat),(l.foldl (fun s e=>if Region.binds .any e=true then s ||| 2 ^ e.on ||| acc.getD e.on 0 else s) s).testBit k=true →
 s.testBit k=true∨∃e∈l,Region.binds .any e=true∧(e.on=k∨(acc.getD e.on 0).testBit k=true)
 | [],s,h=>.inl h
 | e :: l,s,h=>by
   simp only[List.foldl_cons] at h;rcases GP acc k l _ h with h|⟨e',Ap,h⟩
   ·split at h
    ·rename_i hb;simp only[Nat.testBit_or,Bool.or_eq_true] at h;rcases h with (h|h)|h
     ·exact .inl h
     ·rw[Nat.testBit_two_pow] at h;exact .inr ⟨e,by simp,hb,.inl (by simpa using h)⟩
     ·exact .inr ⟨e,by simp,hb,.inr h⟩
    ·exact .inl h
   ·exact .inr ⟨e',by simp[Ap],h⟩
theorem GQ {α:Type} (n:Nat) (k:Nat→α):forced n k=k n:=by cases n<;>rfl
theorem Zq (ops:Array Oper):∀(l:List Oper) (acc:Array Nat),(∀i o,l[i]? = some o→ops[acc.size+i]? = some o)→Zp ops acc→Zp ops (EO l acc)
 | [],acc,_,h=>h
 | o :: l,acc,hl,h=>by
   unfold EO;rw[GQ];refine Zq ops l _ (fun i o' ho'=>?_) ?_
   ·have:=hl (i+1) o' (by simpa using ho')
    simp only[Array.size_push];rw[← this];congr 1
    omega
   ·intro j oj hj hoj k hk;have qR:∀x,(acc.getD x 0).testBit k=true→((acc.push (TX acc o)).getD x 0).testBit k=true:=fun x hx=>by
     have aY:x<acc.size:=by
      rcases Nat.lt_or_ge x acc.size with h'|h'
      ·exact h'
      ·simp[Array.getElem?_eq_none h'] at hx
     simp only[Array.getD_eq_getD_getElem?,Array.getElem?_push_lt aY] at hx ⊢;simpa [aY] using hx
    rcases Nat.lt_or_ge j acc.size with aY|hge
    ·have Yy:(acc.getD j 0).testBit k=true:=by
      simp only[Array.getD_eq_getD_getElem?,Array.getElem?_push_lt aY] at hk ⊢;simpa [aY] using hk
     obtain⟨e,he,hb,hor⟩:=h j oj aY hoj k Yy
     exact⟨e,he,hb,hor.imp id (qR _)⟩
    ·have hje:j=acc.size:=by simp only[Array.size_push] at hj;omega
     subst hje;have ho:=hl 0 o (by simp)
     rw[Nat.add_zero,hoj] at ho;cases ho
     have Yy:(TX acc o).testBit k=true:=by simpa using hk
     rcases GP acc k _ 0 Yy with h0|⟨e,he,hb,hor⟩
     ·simp at h0
     ·exact⟨e,by simpa using he,hb,hor.imp id (qR _)⟩
theorem Pq {ops:Array Oper} {dy:List (Nat × Nat)} {b:Array Nat} {j:Nat} {oj:Oper}:∀(l:List Oper) (i0:Nat),Nl ops dy b j oj l i0=true→∀i oi,l[i]? = some oi→i0+i<j→(b.getD j 0).testBit (i0+i)=true∨(ZI oi=true∧ZI oj=true∧(sS ops oi oj=true∨((i0+i,j)∈dy∧HB ops b (i0+i) oi j oj=true)))
 | [],_,_,i,oi,h,_=>by simp at h
 | o :: l,i0,h,i,oi,ho,aY=>by
   unfold Nl at h;simp only[Bool.and_eq_true,Bool.or_eq_true,decide_eq_true_eq] at h;cases i with
   | zero =>
     simp at ho
     subst ho;rcases h.1 with (h|h)|⟨⟨n1,n2⟩,h⟩
     ·omega
     ·exact .inl (by simpa using h)
     ·exact .inr ⟨n1,n2,h.imp id fun h=>⟨by simpa using h.1,by simpa using h.2⟩⟩
   | succ i =>
     have:=Pq l (i0+1) h.2 i oi (by simpa using ho) (by omega)
     rw[show i0+(i+1)=i0+1+i by omega]
     exact this
theorem Im {ops:Array Oper} {dy:List (Nat × Nat)} {b:Array Nat}:∀(l:List Oper) (j0:Nat),HC ops dy b l j0=true→∀j oj,l[j]? = some oj →
 (∀e∈oj.after,Region.binds .any e=true→e.on<j0+j)∧Nl ops dy b (j0+j) oj ops.toList 0=true
 | [],_,_,j,oj,h=>by simp at h
 | o :: l,j0,h,j,oj,ho=>by
   unfold HC at h;simp only[Bool.and_eq_true] at h;obtain⟨⟨h1,h2⟩,h3⟩:=h
   cases j with
   | zero =>
     simp at ho
     subst ho;refine⟨fun e he hb=>?_,by simpa using h2⟩
     have:=List.all_eq_true.1 h1 e (by simpa using he)
     simpa [hb] using this
   | succ j =>
     have:=Im l (j0+1) h3 j oj (by simpa using ho)
     rw[show j0+(j+1)=j0+1+j by omega]
     exact this
structure Dy (ops:Array Oper) (dy:List (Nat × Nat)) (b:Array Nat):Prop where
 aDo:Zp ops b
 size:b.size=ops.size
 lt:∀j oj,ops[j]? = some oj→∀e∈oj.after,Region.binds .any e=true→e.on<j
 apart:∀i j oi oj,i<j→ops[i]? = some oi→ops[j]? = some oj→(b.getD j 0).testBit i=true∨(ZI oi=true∧ZI oj=true∧(sS ops oi oj=true∨((i,j)∈dy∧HB ops b i oi j oj=true)))
theorem Zr:∀(l:List Oper) (acc:Array Nat),(EO l acc).size=acc.size+l.length
 | [],acc=>rfl
 | o :: l,acc=>by
   unfold EO;rw[GQ,Zr l];simp
   omega
theorem PS {ops:Array Oper} {dy:List (Nat × Nat)} (h:Wt ops dy=true):∃b,Dy ops dy b:=by
 unfold Wt at h;refine⟨_,Zq ops ops.toList #[] (fun i o ho=>by simpa using ho) (fun j o hj=>by simp at hj),by rw[Zr];simp,fun j oj hoj=>?_,fun i j oi oj hij hoi hoj=>?_⟩
 ·have:=(Im _ 0 h j oj (by simpa using hoj)).1
  simpa using this
 ·have:=(Im _ 0 h j oj (by simpa using hoj)).2
  simp only[Nat.zero_add] at this;have:=Pq _ 0 this i oi (by simpa using hoi) (by omega)
  simpa using this
section
variable {P:Program} {call:Nat→List AV→Option AV} {ops:Array Oper} {nt:Nat} {Q:Exit→Act→World→Prop}
theorem PT {h0:Nat→Obj→Prop} {w0:World} {F:Fx} {ρ:Nat→Nat→Value} {st:St} {a:Act} {w:World} (S:kX F h0 w0 nt ρ st a w) {o:Oper} {b:Bool} (h:gv ops st o.guard=some b):Region.wanted o (yielded ops a.tmps)=b:=by
 unfold gv at h;unfold Region.wanted;cases hg:o.guard with
 | none=>simp[hg] at h;subst h;rfl
 | some jw =>
   obtain⟨j,want⟩:=jw
   simp only[hg] at h;simp only
   cases hd:(ops[j]?).bind (·.dst) with
   | none =>
     simp[hd] at h
     subst h;simp[yielded,hd]
   | some d =>
     simp only[hd] at h;split at h
     ·rename_i x hx;have hr:=S.env d
      rw[hx] at hr;have hv:=iO hr
      rcases Nat.lt_or_ge d a.tmps.size with aY|hge
      ·have hv':a.tmps[d]? = some x:=by
        simp[aY] at hv ⊢
        exact hv
       simp only[yielded,hd,Option.bind_some,hv'];split at h
       ·simp only[Option.some.injEq] at h;rw[← h];simp
       ·simp only[Option.some.injEq] at h;subst h;rename_i gP;cases x<;>first|rfl|exact absurd rfl (gP _)
      ·have hn:a.tmps[d]? = none:=Array.getElem?_eq_none hge
       have hu:x=undef:=by simpa [hn] using hv.symm
       subst hu;simp[undef] at h
       subst h;simp[yielded,hd,hn]
     ·cases h
theorem XA {h0:Nat→Obj→Prop} {w0:World} {F:Fx} {ρ:Nat→Nat→Value} {st st':St} {a:Act} {w:World} {K:Act→World→Prop} (S:kX F h0 w0 nt ρ st a w) (kK:rH P call) {i:Nat} {o:Oper}
 (hi:ops[i]? = some o) (hd:∀d,o.dst=some d→d<nt) (h:cI P call ops o st=some st')
 (hK:∀oG a' w',kX F h0 w0 nt oG st' a' w'→K a' w'):wpOp P ops Q i K a w:=by
 unfold wpOp;simp only[hi];unfold cI at h;cases hg:gv ops st o.guard with
 | none=>simp[hg] at h
 | some b =>
   rw[PT S hg];simp only[hg] at h;cases b with
   | true =>
     simp only[if_true] at h ⊢;cases he:dT P call o st with
     | none=>simp[he] at h
     | some e =>
       simp only[he,Option.map_some,Option.some.injEq] at h;subst h;exact .inl (Ud S kK he hd hK)
   | false =>
     simp only[Bool.false_eq_true,if_false,Option.some.injEq] at h ⊢;subst h;exact hK ρ _ w (S.put o.dst hd (.v _))
theorem JF {o:Oper} {a:Act} {w:World} {K:Act→World→Prop} (h:o.wp P a w K fun _ _ _=>False):∃a' w',K a' w':=by
 unfold Oper.wp at h;generalize (execOp a.eval o).run P w=r at h
 have hlet:¬LetsOut (fun _ _ _=>False):=by rintro⟨_,_,h⟩;exact h
 cases r with
 | ok n w' =>
   cases n<;>simp only[Oper.upon] at h<;>(try exact⟨_,_,h⟩)<;>(try exact h.elim)
   ·obtain⟨e,w2,fr,hR,_⟩:=h []
    cases e with
    | returned v=>exact⟨_,_,hR⟩
    | panicked c=>exact hR.elim
    | outgrown=>exact absurd hR hlet
   ·obtain⟨v,w2,hR,_⟩:=h default []
    exact⟨_,_,hR⟩
 | halt x w'=>cases x<;>simp only[Oper.upon] at h
def Valid (nt:Nat) (st:St):Prop:=∃(F:Fx) (h0:Nat→Obj→Prop) (w0:World) (ρ:Nat→Nat→Value) (a:Act) (w:World),kX F h0 w0 nt ρ st a w
theorem Valid.ids {st:St} (h:Valid nt st):∀t,mN st.aT (st.env t):=by
 obtain⟨F,h0,w0,ρ,a,w,S⟩:=h
 exact fun t=>⟨ctx h0 w0 ρ st w,_,rfl,S.env t⟩
theorem Valid.hp {st:St} (h:Valid nt st):CW st:=by
 obtain⟨F,h0,w0,ρ,a,w,S⟩:=h
 intro s g cs he c hc;obtain⟨_,_,b,arr,T,_,_,_,zK⟩:=S.sT s g _ he
 obtain⟨i,hi,rfl⟩:=List.getElem_of_mem hc
 have hl:=zK.len
 exact⟨ctx h0 w0 ρ st w,arr.toList[i]'(by omega),rfl,zK.rel i _ _ (by simp[hi]) (by simp)⟩
theorem Valid.step {st st':St} (h:Valid nt st) (kK:rH P call) {o:Oper} (hd:∀d,o.dst=some d→d<nt) (he:cI P call ops o st=some st'):Valid nt st':=by
 obtain⟨F,h0,w0,ρ,a,w,S⟩:=h
 unfold cI at he;cases hg:gv ops st o.guard with
 | none=>simp[hg] at he
 | some b =>
   simp only[hg] at he;cases b with
   | true =>
     simp only[if_true] at he;cases hee:dT P call o st with
     | none=>simp[hee] at he
     | some e =>
       simp only[hee,Option.map_some,Option.some.injEq] at he;subst he;obtain⟨a',w',oG,S'⟩:=JF (Ud (Q:=fun _ _ _=>False) (K:=fun a' w'=>∃oG,kX F h0 w0 nt oG (e.apply st) a' w') S kK hee hd (fun oG a' w' h=>⟨oG,h⟩))
       exact⟨F,h0,w0,oG,a',w',S'⟩
   | false =>
     simp only[Bool.false_eq_true,if_false,Option.some.injEq] at he;subst he;exact⟨F,h0,w0,ρ,_,w,S.put o.dst hd (.v _)⟩
theorem vZ {b:Array Nat} {i a:Nat} {aS:List Nat} (ha:a∈aS):∀(l:List Oper) (m0:Nat),wP b i aS l m0=true→∀m o,l[m]? = some o→o.dst=some a→(b.getD i 0).testBit (m0+m)=true
 | [],_,_,m,o,h,_=>by simp at h
 | o' :: l,m0,h,m,o,ho,hd=>by
   unfold wP at h;simp only[Bool.and_eq_true,Bool.or_eq_true] at h;cases m with
   | zero =>
     simp at ho
     subst ho;rcases h.1 with h|h
     ·rw[hd] at h;simp[ha] at h
     ·simpa using h
   | succ m =>
     have:=vZ ha l (m0+1) h.2 m o (by simpa using ho) hd
     rw[show m0+(m+1)=m0+1+m by omega]
     exact this
theorem qJ.mem {s:St}:∀ {l:List (Nat × Nat)},qJ ops s l→∀p∈l,Ws ops s p
 | p :: l,h,q,hq=>by
   rcases List.mem_cons.1 hq with rfl|hq
   ·exact h.1
   ·exact h.2.mem q hq
structure Left (ops:Array Oper) (mC:Array Bool) (l:List Nat):Prop where
 size:mC.size=ops.size
 mem:∀j,j∈l↔j<ops.size∧mC.getD j true=false
 sorted:l.Pairwise (· < ·)
 closed:∀j o,ops[j]? = some o→mC.getD j false=true→∀e∈o.after,Region.binds .any e=true→mC.getD e.on false=true
theorem Dy.aHO {dy:List (Nat × Nat)} {b:Array Nat} (D:Dy ops dy b):∀(j:Nat) o,ops[j]? = some o→∀k,(b.getD j 0).testBit k=true→k<j:=by
 intro j;induction j using Nat.strongRecOn with
 | _ j ih =>
   intro o ho k hk;have hj:j<ops.size:=(Array.getElem?_eq_some_iff.1 ho).1
   obtain⟨e,he,hb,hor⟩:=D.aDo j o (by rw[D.size];exact hj) ho k hk
   have aY:=D.lt j o ho e he hb
   rcases hor with rfl|Yy
   ·exact aY
   ·have hes:e.on<ops.size:=by omega
    have:=ih e.on aY _ (Array.getElem?_eq_getElem hes) k Yy
    omega
theorem GR {mC:Array Bool} {j:Nat} (hj:j<mC.size):mC.getD j true=mC.getD j false:=by simp[hj]
theorem PU {dy:List (Nat × Nat)} {b:Array Nat} (D:Dy ops dy b) {mC:Array Bool} {l:List Nat} (L:Left ops mC l):∀(j:Nat) o,ops[j]? = some o→(∀e∈o.after,Region.binds .any e=true→mC.getD e.on false=true) →
 ∀k,(b.getD j 0).testBit k=true→mC.getD k false=true:=by
 intro j;induction j using Nat.strongRecOn with
 | _ j ih =>
   intro o ho Ll k hk;have hj:j<ops.size:=(Array.getElem?_eq_some_iff.1 ho).1
   obtain⟨e,he,hb,hor⟩:=D.aDo j o (by rw[D.size];exact hj) ho k hk
   have hle:=Ll e he hb
   rcases hor with rfl|Yy
   ·exact hle
   ·have aY:=D.lt j o ho e he hb
    have hes:e.on<ops.size:=by omega
    exact ih e.on aY _ (Array.getElem?_eq_getElem hes) (L.closed e.on _ (Array.getElem?_eq_getElem hes) hle) k Yy
end
end Go.Ab
end
section
namespace Go.Ab
open Classical
variable [Ext]
section
variable {P:Program} {call:Nat→List AV→Option AV} {inl:Nat→List AV→St→Option (AV × St)} {bi:Bool} {nt:Nat} {h0:Nat→Obj→Prop} {w0:World} {F:Fx}
theorem DE {ops:Array Oper} {id:Nat} {draw:Bool} (h:codeOk bi nt (.region id ops draw)=true):(∀(j:Nat) o,ops[j]? = some o→∀d,o.dst=some d→d<nt)∧(draw=true→Wt ops (if bi=true then Ext.dyn id ops.size (sI ops) else [])=true):=by
 simp only[codeOk,Bool.and_eq_true,Bool.or_eq_true,Bool.not_eq_true'] at h;refine⟨fun j o ho d hd=>?_,fun hdr=>h.2.resolve_left (by rw[hdr];simp)⟩
 have:=Array.all_eq_true_iff_forall_mem.1 h.1 o (Array.mem_of_getElem? ho)
 simpa [hd] using this
def Zs (P:Program) (inl:Nat→List AV→St→Option (AV × St)):Prop :=
 ∀g xs st r s',inl g xs st=some (r,s')→Ie P g ∧
  ∀(F:Fx) (h0:Nat→Obj→Prop) (w0:World) (nt:Nat) (ρ:Nat→Nat→Value) (a:Act) (w:World) (vs:Array Value) (K:Value→World→Prop),kX F h0 w0 nt ρ st a w→lS (ctx h0 w0 ρ st w) xs vs.toList →
   (∀oG w' v,kX F h0 w0 nt oG (st.back s') a w'→cZ (ctx h0 w0 oG (st.back s') w') r v→K v w')→Calls P g vs w fun en w'=>∃v,en=.returned v∧K v w'
theorem XB {o:Oper} {g:Nat} {args:List Operand} (h:Fw o=some (g,args)):∃c,o.op=.call c∧c.callee=.value (.func g)∧c.args.toList=args:=by
 obtain⟨dst,op,type,pos,after,guard⟩:=o
 unfold Fw at h;split at h
 ·rename_i g' args' tQ qK
  split at h
  ·simp only[Option.some.injEq,Prod.mk.injEq] at h;obtain⟨rfl,rfl⟩:=h
   exact⟨_,qK,rfl,rfl⟩
  ·cases h
 ·cases h
theorem Uh {ops:Array Oper} {Q:Exit→Act→World→Prop} {ρ:Nat→Nat→Value} {st st':St} {a:Act} {w:World} {K:Act→World→Prop} (S:kX F h0 w0 nt ρ st a w) (kK:rH P call) (Ps:Zs P inl) {i:Nat} {o:Oper}
 (hi:ops[i]? = some o) (hd:∀d,o.dst=some d→d<nt) (h:gT P bi call inl ops o st=some st')
 (hK:∀oG a' w',kX F h0 w0 nt oG st' a' w'→K a' w'):wpOp P ops Q i K a w:=by
 unfold gT at h;split at h
 ·rename_i g args hg;have LR:Fw o=some (g,args):=by
   split at hg
   ·exact hg
   ·cases hg
  obtain⟨c,qK,hcal,tR⟩:=XB LR
  unfold wpOp;simp only[hi];cases hgv:gv ops st o.guard with
  | none=>simp[hgv] at h
  | some b =>
    rw[PT S hgv];simp only[hgv] at h;cases b with
    | true =>
      simp only[if_true] at h ⊢;cases he:inl g (args.map st.ev) st with
      | none=>simp[he] at h
      | some r =>
        obtain⟨x,s'⟩:=r
        simp only[he,Option.map_some,Option.some.injEq] at h;subst h;refine .inl ?_
        obtain⟨⟨fn,aHK,aAo,aAp⟩,WQ⟩:=Ps g _ st x s' he
        have hnb:fn.body.isNone=false:=by
         cases hb:fn.body<;>simp[hb] at aAp ⊢
        have Rb : ¬ fn.name = "runtime.NumGoroutine" := by simpa using aAo
        have hn2:¬fn.body=none:=by intro h;simp[h] at hnb
        have qH:(execOp a.eval o).run P w=.ok (.enter g (c.args.map a.eval)) w:=by
         simp[execOp,qK,resolve,hcal,Act.eval,Deferred.ofValue,invoke,callFunc,aHK,Rb,hn2]
        have gC:lS (ctx h0 w0 ρ st w) (args.map st.ev) (c.args.map a.eval).toList:=by
         rw[← tR];simpa using lS.map c.args.toList _ _ fun p _=>S.ev p
        unfold Oper.wp;rw[qH,Oper.upon_enter];refine (WQ F h0 w0 nt ρ a w (c.args.map a.eval) (fun v w'=>K (a.put o.dst v) w') S gC fun oG w' v S' hv=>?_).mono ?_
        ·exact hK oG _ w' (S'.put o.dst hd hv)
        ·rintro en w' ⟨v,rfl,hk⟩
         exact hk
    | false =>
      simp only[Bool.false_eq_true,if_false,Option.some.injEq] at h ⊢;subst h;exact hK ρ _ w (S.put o.dst hd (.v _))
 ·exact XA S kK hi hd h hK
theorem Zt {ops:Array Oper} (kK:rH P call) (Ps:Zs P inl) (lI:∀(j:Nat) o,ops[j]? = some o→∀d,o.dst=some d→d<nt) {Q:Exit→Act→World→Prop} {sf:St}
 (hQ:∀oG a' w',kX F h0 w0 nt oG sf a' w'→Q .normal a' w'):∀(l:List Oper) (k:Nat) (st:St) (ρ:Nat→Nat→Value) (a:Act) (w:World),(∀(j:Nat) o,l[j]? = some o→ops[k+j]? = some o)→kX F h0 w0 nt ρ st a w →
  mH P bi call inl ops l st=some sf→wpOps P ops Q (List.range' k l.length) a w
 | [],k,st,ρ,a,w,hl,S,h=>by
   simp only[mH,Option.some.injEq] at h;subst h;exact hQ ρ a w S
 | o :: l,k,st,ρ,a,w,hl,S,h=>by
   rw[List.length_cons,List.range'_succ,wpOps_cons];have hi:ops[k]? = some o:=hl 0 o rfl
   unfold mH at h;cases h1:gT P bi call inl ops o st with
   | none=>simp[h1,cT] at h
   | some s1 =>
     simp only[h1,cT] at h;exact Uh S kK Ps hi (lI k o hi) h1 fun oG a' w' S'=>Zt kK Ps lI hQ l (k+1) s1 oG a' w' (fun j o' hj=>by
      have:=hl (j+1) o' (by simpa using hj)
      rw[show k+1+j=k+(j+1) by omega];exact this) S' h
noncomputable def Ml (P:Program) (bi:Bool) (call:Nat→List AV→Option AV) (inl:Nat→List AV→St→Option (AV × St)) (ops:Array Oper):List Nat→St→Option St
 | [],st=>some st
 | i :: r,st =>
   match ops[i]? with
   | some o=>cT (gT P bi call inl ops o st) (Ml P bi call inl ops r)
   | none=>Ml P bi call inl ops r st
theorem Ui {ops:Array Oper}:∀(l:List Oper) (k:Nat) (st:St),(∀j,l[j]? = ops[k+j]?∨l.length≤j)→mH P bi call inl ops l st=Ml P bi call inl ops (List.range' k l.length) st
 | [],k,st,h=>rfl
 | o :: l,k,st,h=>by
   have h0:=(h 0).resolve_right (by simp)
   simp only[List.getElem?_cons_zero,Nat.add_zero] at h0;simp only[mH,List.length_cons,List.range'_succ,Ml,← h0];cases gT P bi call inl ops o st with
   | none=>rfl
   | some s =>
     simp only[cT];exact Ui l (k+1) s fun j=>by
      rcases h (j+1) with h|h
      ·left
       rw[show k+1+j=k+(j+1) by omega,← h]
       simp
      ·right
       simpa using h
theorem Zu {ops:Array Oper} {o:Oper} {st s:St} {a:Nat} (h:cI P call ops o st=some s) (hd:o.dst≠some a):s.env a=st.env a:=by
 rw[Fo] at h;cases he:sB P call ops o st with
 | none=>simp[he] at h
 | some e =>
   simp only[he,Option.map_some,Option.some.injEq] at h;subst h;rw[oW,(pE he).1,if_neg hd]
theorem aAz {o:Oper} (h:ZI o=true):Fw o=none:=by simpa [ZI] using h
theorem PV {ops:Array Oper} {o:Oper} (h:ZI o=true) (st:St):gT P bi call inl ops o st=cI P call ops o st:=by
 unfold gT;rw[aAz h];cases bi<;>rfl
theorem I3 {ops:Array Oper} {o:Oper} {st s:St} {a:Nat} (h:gT P bi call inl ops o st=some s) (hd:o.dst≠some a):s.env a=st.env a:=by
 unfold gT at h;have hput:∀(s0:St) (x:AV),(s0.put o.dst x).env a=s0.env a:=fun s0 x=>by
  cases hod:o.dst with
  | none=>rfl
  | some d =>
    simp only[St.put];rw[if_neg];rintro rfl
    exact hd hod
 split at h
 ·split at h
  ·split at h
   ·simp only[Option.map_eq_some_iff] at h;obtain⟨r,_,rfl⟩:=h
    exact hput _ _
   ·simp only[Option.some.injEq] at h;subst h;exact hput _ _
  ·cases h
 ·exact Zu h hd
theorem Pt {ops:Array Oper} {a:Nat}:∀(l:List Nat) {st sf:St},(∀m∈l,∀o,ops[m]? = some o→o.dst≠some a)→Ml P bi call inl ops l st=some sf→sf.env a=st.env a
 | [],st,sf,_,h=>by
   simp only[Ml,Option.some.injEq] at h;subst h;rfl
 | i :: l,st,sf,hd,h=>by
   unfold Ml at h;cases hi:ops[i]? with
   | none=>simp only[hi] at h;exact Pt l (fun m hm=>hd m (by simp[hm])) h
   | some o =>
     simp only[hi] at h;cases h1:gT P bi call inl ops o st with
     | none=>simp[h1,cT] at h
     | some s1 =>
       simp only[h1,cT] at h;rw[Pt l (fun m hm=>hd m (by simp[hm])) h,I3 h1 (hd i (by simp) o hi)]
def z9 (ops:Array Oper) (sf:St) (rest:List Nat) (k:Nat) (ok oi:Oper):Prop :=
 sS ops ok oi=true∨∃aS bs,iA ok=some aS∧iA oi=some bs∧Oper.apart ops ok oi=true∧Lj sf aS bs ∧
  (∀m∈rest,k≤m→∀o,ops[m]? = some o→∀a∈aS,o.dst≠some a)∧(∀m∈rest,∀o,ops[m]? = some o→∀b∈bs,o.dst≠some b)
theorem Zv {ops:Array Oper} (kK:rH P call) (lI:∀(j:Nat) o,ops[j]? = some o→∀d,o.dst=some d→d<nt) {i:Nat} {oi:Oper} (hi:ops[i]? = some oi) (l2:List Nat):∀(l1:List Nat) (st sf:St),Valid nt st→(l1++i :: l2).Pairwise (· < ·) →
 (∀k∈l1,∃ok,ops[k]? = some ok∧ZI ok=true∧ZI oi=true∧z9 ops sf (l1++i :: l2) k ok oi)→Ml P bi call inl ops (l1++i :: l2) st=some sf→Ml P bi call inl ops (i :: (l1++l2)) st=some sf
 | [],st,sf,_,_,_,h=>h
 | k :: l1,st,sf,hv,hs,nK,h=>by
   obtain⟨ok,oZ,Rb,hn2,hak⟩:=nK k (by simp)
   have e1:=fun st=>PV (P:=P) (bi:=bi) (call:=call) (inl:=inl) (ops:=ops) Rb st
   have e2:=fun st=>PV (P:=P) (bi:=bi) (call:=call) (inl:=inl) (ops:=ops) hn2 st
   simp only[List.cons_append,Ml,oZ,e1] at h;cases h1:cI P call ops ok st with
   | none=>simp[h1,cT] at h
   | some s1 =>
     simp only[h1,cT] at h;rw[List.cons_append,List.pairwise_cons] at hs;have ih:=Zv kK lI hi l2 l1 s1 sf (hv.step kK (lI k ok oZ) h1) hs.2 (fun k' hk=>by
      obtain⟨ok',h1,m1,m2,h2⟩:=nK k' (by simp[hk])
      refine⟨ok',h1,m1,m2,h2.imp id ?_⟩
      rintro⟨a,a',e1,e2,e3,e4,e5,e6⟩
      exact⟨a,a',e1,e2,e3,e4,fun m hm=>e5 m (by simp only[List.cons_append];exact List.mem_cons_of_mem _ hm),fun m hm=>e6 m (by simp only[List.cons_append];exact List.mem_cons_of_mem _ hm)⟩) h
     have ih0:=ih
     simp only[Ml,hi,e2] at ih;cases h2:cI P call ops oi s1 with
     | none=>simp[h2,cT] at ih
     | some s2 =>
       simp only[h2,cT] at ih;have hcomm:∃s3,cI P call ops oi st=some s3∧cI P call ops ok s3=some s2:=by
        rcases hak with hak|⟨aS,bs,e1',e2',e3,e4,e5,e6⟩
        ·exact aDy hv.hp hak hv.ids h1 h2
        ·have w1:∀m∈i :: (l1++l2),m∈(k :: l1)++i :: l2∧k≤m:=fun m hm=>by
          have hm':m∈l1++i :: l2:=by
           simp only[List.mem_cons,List.mem_append] at hm ⊢;rcases hm with h|h|h
           ·exact .inr (.inl h)
           ·exact .inl h
           ·exact .inr (.inr h)
          exact⟨by simp only[List.cons_append];exact List.mem_cons_of_mem _ hm',Nat.le_of_lt (hs.1 m hm')⟩
         have f1:∀a∈aS,sf.env a=st.env a:=fun a ha=>by
          rw[Pt _ (fun m hm o ho=>e5 m (w1 m hm).1 (w1 m hm).2 o ho a ha) ih0,Zu h1 (e5 k (by simp) (Nat.le_refl _) ok oZ a ha)]
         have f2:∀b∈bs,sf.env b=st.env b:=fun b hb=>by
          rw[Pt _ (fun m hm o ho=>e6 m (w1 m hm).1 o ho b hb) ih0,Zu h1 (e6 k (by simp) ok oZ b hb)]
         have e4':Lj st aS bs:=fun a ha b hb=>by
          have:=e4 a ha b hb
          rw[f1 a ha,f2 b hb] at this;exact this
         exact aAx hv.ids e1' e2' e3 e4' h1 h2
       obtain⟨s3,h3,h4⟩:=hcomm
       simp only[List.cons_append,Ml,hi,oZ,e1,e2,h3,h4,cT];exact ih
theorem Zw {ops:Array Oper} {Q:Exit→Act→World→Prop} (kK:rH P call) (Ps:Zs P inl) (lI:∀(j:Nat) o,ops[j]? = some o→∀d,o.dst=some d→d<nt) {dy:List (Nat × Nat)} {b:Array Nat} (D:Dy ops dy b) {sf:St} (hsw:qJ ops sf dy)
 (hQ:∀oG a' w',kX F h0 w0 nt oG sf a' w'→Q .normal a' w'):∀(f:Nat) (l:List Nat) (mC:Array Bool) (st:St) (ρ:Nat→Nat→Value) (a:Act) (w:World),l.length=f→Left ops mC l→kX F h0 w0 nt ρ st a w →
 Ml P bi call inl ops l st=some sf→wpAny P .any ops Q f mC a w
 | 0,l,mC,st,ρ,a,w,hf,L,S,he=>by
   have hl:=List.length_eq_zero_iff.1 hf
   subst hl;simp only[Ml,Option.some.injEq] at he;subst he;refine⟨?_,hQ ρ a w S⟩
   cases hr:Region.ready .any ops mC with
   | nil=>rfl
   | cons x xs =>
     have hx:x∈Region.ready .any ops mC:=by rw[hr];simp
     obtain⟨h1,o,ho,_⟩:=mem_ready.1 hx
     have:=(L.mem x).2 ⟨(Array.getElem?_eq_some_iff.1 ho).1,h1⟩
     simp at this
 | f+1,l,mC,st,ρ,a,w,hf,L,S,he=>by
   refine⟨fun hr=>?_,fun i hi=>?_⟩
   ·exfalso
    cases l with
    | nil=>simp at hf
    | cons i l =>
      have hil:=(L.mem i).1 (by simp)
      have:i∈Region.ready .any ops mC:=mem_ready.2 ⟨hil.2,ops[i],Array.getElem?_eq_getElem hil.1,fun e Ap hb=>by
       have aY:=D.lt i _ (Array.getElem?_eq_getElem hil.1) e Ap hb
       cases hle:mC.getD e.on false with
       | true=>rfl
       | false =>
         have WA:e.on<mC.size:=by rw[L.size];omega
         have hin:=(L.mem e.on).2 ⟨by omega,by rw[GR WA];exact hle⟩
         rcases List.mem_cons.1 hin with h|h
         ·omega
         ·have:=(List.pairwise_cons.1 L.sorted).1 _ h
          omega⟩
      rw[hr] at this;simp at this
   ·obtain⟨h1,oi,hoi,Ll⟩:=mem_ready.1 hi
    have hilt:i<ops.size:=(Array.getElem?_eq_some_iff.1 hoi).1
    have hil:=(L.mem i).2 ⟨hilt,h1⟩
    obtain⟨l1,l2,rfl⟩:=List.append_of_mem hil
    have hs:=L.sorted
    rw[List.pairwise_append] at hs;obtain⟨s1,s2,s3⟩:=hs
    have hno:∀m,(b.getD i 0).testBit m=true→m ∉ l1++i :: l2:=fun m h hm=>by
     have H2:=(L.mem m).1 hm
     have:=PU D L i oi hoi Ll m h
     rw[← GR (by rw[L.size];exact H2.1),H2.2] at this
     cases this
    have nK:∀k∈l1,∃ok,ops[k]? = some ok∧ZI ok=true∧ZI oi=true∧z9 ops sf (l1++i :: l2) k ok oi:=fun k hk=>by
     have UE:=s3 k hk i (by simp)
     have H2:=(L.mem k).1 (by simp[hk])
     refine⟨ops[k],Array.getElem?_eq_getElem H2.1, ?_⟩
     rcases D.apart k i _ oi UE (Array.getElem?_eq_getElem H2.1) hoi with h|⟨n1,n2,h|⟨hm,h⟩⟩
     ·exact absurd (by simp[hk]) (hno k h)
     ·exact⟨n1,n2,.inl h⟩
     ·refine⟨n1,n2,.inr ?_⟩
      have hsa:=hsw.mem _ hm
      unfold Ws at hsa;simp only[Array.getElem?_eq_getElem H2.1,hoi,Option.bind_some] at hsa;unfold HB at h;cases ha:iA ops[k] with
      | none=>rw[ha] at h;cases h
      | some aS =>
        cases ha':iA oi with
        | none=>rw[ha,ha'] at h;cases h
        | some bs =>
          rw[ha,ha'] at hsa h;simp only[Bool.and_eq_true] at h hsa;refine⟨aS,bs,rfl,rfl,h.1.1,hsa,fun m hm hkm' o ho a haa hd=>?_,fun m hm o ho b xL hd=>?_⟩
          ·have hb:=vZ haa _ 0 h.1.2 m o (by simpa using ho) hd
           rw[Nat.zero_add] at hb;have aY:=D.aHO k _ (Array.getElem?_eq_getElem H2.1) m hb
           omega
          ·have hb:=vZ xL _ 0 h.2 m o (by simpa using ho) hd
           rw[Nat.zero_add] at hb;exact hno m hb hm
    have Ap:=Zv kK lI hoi l2 l1 st sf ⟨F,h0,w0,ρ,a,w,S⟩ L.sorted nK he
    simp only[Ml,hoi] at Ap
    cases h2:gT P bi call inl ops oi st with
    | none=>simp[h2,cT] at Ap
    | some s2' =>
      simp only[h2,cT] at Ap
      refine Uh S kK Ps hoi (lI i oi hoi) h2 fun oG a' w' S'=>?_
      refine Zw kK Ps lI D hsw hQ f (l1++l2) _ s2' oG a' w' (by simp at hf ⊢;omega) ⟨by simp[L.size],fun j=>?_, ?_,fun j o ho hlj e he'' hb=>?_⟩ S' Ap
      ·have hm:=L.mem j
       simp only[List.mem_append,List.mem_cons] at hm ⊢;by_cases hji:j=i
       ·subst hji;have Rb:j ∉ l1:=fun h=>by have:=s3 j h j (by simp);omega
        have hn2:j ∉ l2:=fun h=>by have:=(List.pairwise_cons.1 s2).1 j h;omega
        have Z4:(mC.setIfInBounds j true).getD j true=true:=by
         have:j<mC.size:=by rw[L.size];exact hilt
         simp[this]
        simp[Rb,hn2,Z4]
       ·rw[getD_set_ne true (Ne.symm hji)];simpa [hji] using hm
      ·rw[List.pairwise_append];exact⟨s1,(List.pairwise_cons.1 s2).2,fun x hx y hy=>s3 x hx y (by simp[hy])⟩
      ·by_cases hji:i=j
       ·subst hji;rw[hoi] at ho;cases ho
        exact getD_set_true (Ll e he'' hb)
       ·rw[getD_set_ne false hji] at hlj;exact getD_set_true (L.closed j o ho hlj e he'' hb)
theorem JG (hm:P.follows .mixedOrders=true) (kK:rH P call) (Ps:Zs P inl) {ops:Array Oper} {id:Nat} {draw:Bool} (oZ:codeOk bi nt (.region id ops draw)=true) {Q:Exit→Act→World→Prop} {st sf:St} {ρ:Nat→Nat→Value} {a:Act} {w:World}
 (S:kX F h0 w0 nt ρ st a w) (hsw:bi=true→qJ ops sf (Ext.dyn id ops.size (sI ops))) (h:mH P bi call inl ops ops.toList st=some sf) (hQ:∀oG a' w',kX F h0 w0 nt oG sf a' w'→Q .normal a' w'):(Code.region id ops draw).wp P Q a w:=by
 obtain⟨lI,hdraw⟩:=DE oZ
 cases draw with
 | false =>
   refine wp_region ?_
   rw[List.range_eq_range'];have:=Zt kK Ps lI hQ ops.toList 0 st ρ a w (fun j o hj=>by simpa using hj) S h
   simpa using this
 | true =>
   rw[Ui ops.toList 0 st (fun j=>.inl (by simp))] at h
   obtain⟨b,D⟩:=PS (hdraw rfl)
   refine wp_region_any hm ?_
   have hg:w.grownBy { w with drawn:=w.drawn+1 } none:=⟨rfl,rfl,rfl,Nat.le_refl _,fun _ _ _=>rfl⟩
   have hsw':qJ ops sf (if bi=true then Ext.dyn id ops.size (sI ops) else []):=by
    cases bi with
    | true=>exact hsw rfl
    | false=>exact trivial
   refine Zw kK Ps lI D hsw' hQ ops.size (List.range' 0 ops.size) _ st ρ a _ (by simp) ⟨by simp,fun j=>?_, ?_,fun j o ho hl=>?_⟩ (S.grow hg).1 (by simpa using h)
   ·rw[← List.range_eq_range',List.mem_range];constructor
    ·intro hj;exact⟨hj,by simp[hj]⟩
    ·exact fun h=>h.1
   ·rw[← List.range_eq_range'];exact List.pairwise_lt_range
   ·simp[Array.getD_eq_getD_getElem?,Array.getElem?_replicate] at hl
    split at hl<;>simp at hl
theorem Eu {p:Nat→Prop} (h:∃n,p n):∃n,p n∧∀m,p m→n≤m:=by
 obtain⟨n,hn⟩:=h
 induction n using Nat.strongRecOn with
 | _ n ih =>
   by_cases hl:∃m,m<n∧p m
   ·obtain⟨m,hm,hp⟩:=hl
    exact ih m hm hp
   ·exact⟨n,hn,fun m hm=>by
     rcases Nat.lt_or_ge m n with h|h
     ·exact absurd ⟨m,h,hm⟩ hl
     ·exact h⟩
noncomputable def Zx (p:Nat→Prop):Nat:=if h:∃n,p n then Classical.choose (Eu h) else 0
theorem Uj {p:Nat→Prop} (h:∃n,p n):p (Zx p)∧∀m,p m→Zx p≤m:=by
 unfold Zx;rw[dif_pos h];exact Classical.choose_spec (Eu h)
def Ex.to:Ex→Exit
 | .normal=>.normal
 | .exit id=>.exit id
 | .ret=>.ret
theorem pY (hm:P.follows .mixedOrders=true) (kK:rH P call) (Ps:Zs P inl) (n:Nat):∀(c:Code) (st sf:St) (ex:Ex) (ρ:Nat→Nat→Value) (a:Act) (w:World) (Q:Exit→Act→World→Prop),codeOk bi nt c=true →
 kX F h0 w0 nt ρ st a w→uZ P bi call inl n c st=some (ex,sf)→(∀oG a' w',kX F h0 w0 nt oG sf a' w'→Q ex.to a' w')→c.wp P Q a w:=by
 induction n using Nat.strongRecOn with
 | _ n ih =>
 have pY:∀m,m<n→∀(c:Code) (st sf:St) (ex:Ex) (ρ:Nat→Nat→Value) (a:Act) (w:World) (Q:Exit→Act→World→Prop),codeOk bi nt c=true →
  kX F h0 w0 nt ρ st a w→uZ P bi call inl m c st=some (ex,sf)→(∀oG a' w',kX F h0 w0 nt oG sf a' w'→Q ex.to a' w')→c.wp P Q a w:=ih
 clear ih
 intro c st sf ex ρ a w Q oZ S h hQ;cases n with
 | zero=>simp[uZ] at h
 | succ n =>
   cases c<;>simp only[uZ] at h
   case skip =>
    simp only[Option.some.injEq,Prod.mk.injEq] at h;obtain⟨rfl,rfl⟩:=h
    exact wp_skip (hQ ρ a w S)
   case region id ops draw =>
    cases h1:mH P bi call inl ops ops.toList st with
    | none=>simp[h1,cT] at h
    | some s1 =>
      simp only[h1,cT] at h;split at h
      ·cases h
      ·rename_i hsw;simp only[Option.some.injEq,Prod.mk.injEq] at h;obtain⟨rfl,rfl⟩:=h
       exact JG hm kK Ps oZ S (fun hb=>Classical.byContradiction fun hc=>hsw ⟨hb,hc⟩) h1 hQ
   case seq x y =>
    simp only[codeOk,Bool.and_eq_true] at oZ;cases h1:uZ P bi call inl n x st with
    | none=>simp[h1,cT] at h
    | some r =>
      obtain⟨e1,s1⟩:=r
      simp only[h1,cT] at h;refine wp_seq (pY n (by omega) x st s1 e1 ρ a w _ oZ.1 S h1 fun oG a' w' S'=>?_)
      cases e1 with
      | normal=>exact pY n (by omega) y s1 sf ex oG a' w' Q oZ.2 S' h hQ
      | exit id =>
        simp only[Option.some.injEq,Prod.mk.injEq] at h;obtain⟨rfl,rfl⟩:=h
        exact hQ oG a' w' S'
      | ret =>
        simp only[Option.some.injEq,Prod.mk.injEq] at h;obtain⟨rfl,rfl⟩:=h
        exact hQ oG a' w' S'
   case cond c x y =>
    simp only[codeOk,Bool.and_eq_true] at oZ;split at h
    ·rename_i t ht;have hr:=S.ev c
     rw[ht] at hr;have hv:=iO hr
     refine wp_cond (t:=t) hv ?_
     cases t with
     | true=>exact pY n (by omega) x st sf ex ρ a w Q oZ.1 S (by simpa using h) hQ
     | false=>exact pY n (by omega) y st sf ex ρ a w Q oZ.2 S (by simpa using h) hQ
    ·cases h
   case block id b =>
    simp only[codeOk] at oZ;cases h1:uZ P bi call inl n b st with
    | none=>simp[h1,cT] at h
    | some r =>
      obtain⟨e1,s1⟩:=r
      simp only[h1,cT,Option.some.injEq,Prod.mk.injEq] at h;obtain⟨rfl,rfl⟩:=h
      refine wp_block (pY n (by omega) b st s1 e1 ρ a w _ oZ S h1 fun oG a' w' S'=>?_)
      have:=hQ oG a' w' S'
      cases e1 with
      | normal=>exact this
      | exit i =>
        simp only[Ex.inBlock] at this;simp only[Ex.to,Exit.inBlock];by_cases hi:i=id
        ·rw[if_pos hi] at this ⊢;exact this
        ·rw[if_neg hi] at this ⊢;exact this
      | ret=>exact this
   case loop b =>
    have hok':=oZ
    simp only[codeOk] at oZ;let p:Act→World→Nat→Prop:=fun a w m=>m≤n+1∧∃st ρ,kX F h0 w0 nt ρ st a w∧uZ P bi call inl m (.loop b) st=some (ex,sf)
    refine wp_loop (fun a w=>∃m,p a w m) (fun a w=>Zx (p a w)) ⟨n+1,Nat.le_refl _,st,ρ,S,h⟩ fun a w hI=>?_
    obtain⟨⟨hle,LW,ρ1,S1,h1⟩,_⟩:=Uj hI
    generalize Zx (p a w)=m at h1 hle
    cases m with
    | zero=>simp[uZ] at h1
    | succ m =>
      simp only[uZ] at h1;cases h2:uZ P bi call inl m b LW with
      | none=>simp[h2,cT] at h1
      | some r =>
        obtain⟨e1,s1⟩:=r
        simp only[h2,cT] at h1;have hmn:m≤n:=by omega
        refine pY m (by omega) b LW s1 e1 ρ1 a w _ oZ S1 h2 fun oG a' w' S'=>?_
        cases e1 with
        | normal =>
          have hp:p a' w' m:=⟨by omega,s1,oG,S',h1⟩
          exact⟨⟨m,hp⟩,Nat.lt_succ_of_le ((Uj ⟨m,hp⟩).2 m hp)⟩
        | exit id =>
          simp only[Option.some.injEq,Prod.mk.injEq] at h1;obtain⟨rfl,rfl⟩:=h1
          exact hQ oG a' w' S'
        | ret =>
          simp only[Option.some.injEq,Prod.mk.injEq] at h1;obtain⟨rfl,rfl⟩:=h1
          exact hQ oG a' w' S'
   case exit id =>
    simp only[Option.some.injEq,Prod.mk.injEq] at h;obtain⟨rfl,rfl⟩:=h
    exact wp_exit (hQ ρ a w S)
   case ret =>
    simp only[Option.some.injEq,Prod.mk.injEq] at h;obtain⟨rfl,rfl⟩:=h
    exact wp_ret (hQ ρ a w S)
   all_goals cases h
end
end Go.Ab
end
section
namespace Go.Ab
open Classical
variable [Ext]
section
variable {P:Program}
theorem PW {h0:Nat→Obj→Prop} {w w':World}:(bare (Dv h0 w w')).Le (bare (newHs h0 w w' [])) :=
 ⟨fun b o h=>⟨h.1,h.2,by simp⟩,fun _=>Nat.le_refl _,fun _ _ h=>absurd h (by simp[bare])⟩
def Ae (tmps:Array Value):ResultVar→Sem Value
 | .tmp t=>pure (tmps.getD t undef)
 | .cell p t=>do loadVar t (← asAddr (tmps.getD p undef))
theorem JH {h0:Nat→Obj→Prop} {w0:World} {F:Fx} {nt:Nat} {ρ:Nat→Nat→Value} {st:St} {a:Act} {w:World} (S:kX F h0 w0 nt ρ st a w) {rv:ResultVar} {x:AV} (h:lR P st rv=some x) :
 ∃y,(Ae a.tmps rv).run P w=.ok y w∧cZ (ctx h0 w0 ρ st w) x y:=by
 cases rv with
 | tmp t =>
   simp only[lR,Option.some.injEq] at h;subst h;exact⟨_,rfl,S.env t⟩
 | cell p T =>
   simp only[lR] at h;cases hra:qS st (st.env p) with
   | none=>simp[hra,cT] at h
   | some cs =>
     simp only[hra,cT] at h;obtain⟨b,off,arr,B,fr,hu,_,_⟩:=Nr S hra (S.env p)
     obtain⟨r,hr,gC⟩:=Xa S hra h (S.env p)
     rw[hu] at hr;refine⟨r, ?_,gC⟩
     simp only[Instr.loadAt,Instr.sureAddr] at hr;simp only[Ae,hu,asAddr];exact hr
theorem mD {h0:Nat→Obj→Prop} {w0:World} {F:Fx} {nt:Nat} {ρ:Nat→Nat→Value} {st:St} {a:Act} {w:World} (S:kX F h0 w0 nt ρ st a w):∀(rs:List ResultVar) (xs:List AV),rs.map (lR P st)=xs.map some →
 ∃ys,(rs.mapM (Ae a.tmps)).run P w=.ok ys w∧lS (ctx h0 w0 ρ st w) xs ys
 | [],xs,h=>by
   cases xs with
   | nil=>exact⟨[],rfl,.nil _⟩
   | cons x xs=>simp at h
 | r :: rs,xs,h=>by
   cases xs with
   | nil=>simp at h
   | cons x xs =>
     simp only[List.map_cons,List.cons.injEq] at h;obtain⟨y,hy,gC⟩:=JH S h.1
     obtain⟨ys,Va,hrels⟩:=mD S rs xs h.2
     refine⟨y :: ys, ?_,.cons gC hrels⟩
     rw[List.mapM_cons,dQ hy,dQ Va];rfl
theorem JI {h0:Nat→Obj→Prop} {w0:World} {F:Fx} {nt:Nat} {ρ:Nat→Nat→Value} {st:St} {a:Act} {w:World} (S:kX F h0 w0 nt ρ st a w) {fn:Func} {r:AV} (h:wF P fn st=some r) :
 ∃v,(results fn a.tmps).run P w=.ok v w∧PF h0 w0 w r v:=by
 have PX:∀(ys:List Value),(fn.results.toList.mapM (Ae a.tmps)).run P w=.ok ys w →
  (results fn a.tmps).run P w=.ok (if h:ys.toArray.size=1 then ys.toArray[0] else .tuple ys.toArray) w:=by
  intro ys Va;have e:results fn a.tmps=(do let vs ← fn.results.mapM (Ae a.tmps);pure (if h:vs.size=1 then vs[0] else .tuple vs)):=by
   unfold results;congr 1
  rw[e,Array.mapM_eq_mapM_toList];simp only[Sem.run_bind,Sem.run_map,Va,Result.andThen_ok,Sem.run_pure]
 unfold wF at h;split at h
 ·rename_i r1 O9;cases h1:lR P st r1 with
  | none=>simp[h1,cT] at h
  | some x =>
    simp only[h1,cT] at h;obtain⟨ys,Va,gC⟩:=mD (P:=P) S [r1] [x] (by simp[h1])
    have hlen:=gC.len
    obtain⟨y,rfl⟩:∃y,ys=[y]:=by
     cases ys with
     | nil=>simp at hlen
     | cons y ys=>cases ys with
       | nil=>exact⟨y,rfl⟩
       | cons z zs=>simp at hlen
    have hxy:=gC.head
    have qH:=PX [y] (by rw[O9];exact Va)
    simp at qH
    refine⟨y,qH, ?_⟩
    unfold Tm at h;split at h
    ·rename_i s g;split at h
     ·rename_i e sz n cs he;split at h
      ·rename_i hf;simp only[Option.some.injEq] at h;subst h;obtain⟨_,_,xs,ho,hc⟩:=S.sT s g _ he
       cases hxy with
       | own _ _ hg ER =>
         refine⟨[ρ s g],fun x hx=>by simp at hx;subst hx;exact ER,fun i j x y b hi hj _ _=>by
          have:=(List.getElem?_eq_some_iff.1 hi).1
          have:=(List.getElem?_eq_some_iff.1 hj).1
          simp only[List.length_singleton] at *
          omega,fun x hx b hb=>by simp at hx;subst hx;exact (Cz ho b hb).1,fun d c=>rfl,fun D d c hD lC=>?_⟩
         obtain⟨k1,k2⟩:=lC 0 _ rfl
         simp only[Nat.add_zero] at k1 k2;refine⟨?_,fun i e' x hi hx=>?_⟩
         ·have:=cZ.own (C:=D) d c k1 (by rw[k2];exact ER)
          rw[k2] at this;exact this
         ·match i with
          | 0 =>
            simp only[ZF,Uq,zB,List.getElem?_cons_zero,Option.some.injEq] at hi hx;subst hi;subst hx;exact⟨xs,ho,hc.flat hf fun b o hb=>hD b o ⟨hb.1,hb.2.1,by simpa using hb.2.2 s g _ he⟩⟩
          | i+1=>simp at hx
      ·cases h
     ·cases h
    ·exact GM (Jy h) ((Mj S hxy h).le PW)
 ·rename_i rs gP;simp only[Option.map_eq_some_iff] at h;obtain⟨ds,Sf,rfl⟩:=h
  have hm:=jI _ _ Sf
  have hex:∃xs:List AV,fn.results.toList.map (lR P st)=xs.map some∧xs.map (Cx st)=ds.map some:=by
   generalize fn.results.toList=l at hm
   clear Sf
   induction l generalizing ds with
   | nil=>cases ds with
     | nil=>exact⟨[],rfl,rfl⟩
     | cons d ds=>simp at hm
   | cons r l ih=>cases ds with
     | nil=>simp at hm
     | cons d ds =>
       simp only[List.map_cons,List.cons.injEq] at hm;obtain⟨xs,e1,e2⟩:=ih ds hm.2
       cases hr:lR P st r with
       | none=>simp[hr,cT] at hm
       | some x =>
         simp only[hr,cT] at hm;exact⟨x :: xs,by simp[hr,e1],by simp[hm.1,e2]⟩
  obtain⟨xs,e1,e2⟩:=hex
  obtain⟨ys,Va,gC⟩:=mD S _ xs e1
  have yF:xs.length=fn.results.toList.length:=by have:=congrArg List.length e1;simpa using this.symm
  have Uu:ds.length=xs.length:=by have:=congrArg List.length e2;simpa using this.symm
  have aAA:ys.toArray.size≠1:=by
   intro h1;have hlen:=gC.len
   simp only[List.size_toArray] at h1;have:fn.results.toList.length=1:=by omega
   obtain⟨z,hz⟩:=List.length_eq_one_iff.1 this
   exact gP z hz
  have qH:=PX ys Va
  rw[dif_neg aAA] at qH;refine⟨_,qH, ?_⟩
  refine GM (.eG ds (pO (p:=Flat) (f:=fun r=>cT (lR P st r) (Cx st)) (fun a b h=>by
   cases hr:lR P st a with
   | none=>simp[hr,cT] at h
   | some x=>simp only[hr,cT] at h;exact WL h) _ _ Sf)) (.eG ds ys.toArray (by simp;rw[Uu];exact gC.len) fun i x y hx hy=>?_)
  have hi:i<xs.length:=by have:=(List.getElem?_eq_some_iff.1 hx).1;omega
  have Jq:Cx st xs[i]=some x:=by
   have:=congrArg (·[i]?) e2
   simp only[List.getElem?_map,hx,List.getElem?_eq_getElem hi,Option.map_some,Option.some.injEq] at this;exact this
  exact (PI S (gC.rel i xs[i] y (by simp[hi]) (by simpa using hy)) Jq).le PW
def A0 (w0:World) (ρ:Nat→Nat→Value) (st:St) (w:World) (d:Nat) (H:Nat→Obj→Prop) (f:Nat→AV→AV × List oB) (y:AV) (ks:List (Nat × Nat)) (u:Value):Prop :=
 (∀k∈ks,∃e,st.heap k.1 k.2=some e)∧∀c,(f c y).2.length=ks.length∧∀D:Ctx,(∀b o,H b o→D.h b o)→(∀(i:Nat) (k:Nat × Nat),ks[i]? = some k→c+i<D.aT d∧D.ρ d (c+i)=ρ k.1 k.2) →
  cZ D (f c y).1 u∧∀(i:Nat) (e:oB) (k:Nat × Nat),(f c y).2[i]? = some e→ks[i]? = some k→nJ D w w0.heap.size (ρ k.1 k.2) e
section qR
variable {h0:Nat→Obj→Prop} {w0:World} {F:Fx} {nt:Nat} {ρ:Nat→Nat→Value} {st:St} {a:Act} {w:World} {H:Nat→Obj→Prop}
theorem aAB (S:kX F h0 w0 nt ρ st a w) (hH:∀b o,(ctx h0 w0 ρ st w).h b o→H b o) {x y:AV} {u:Value} (hu:cZ (ctx h0 w0 ρ st w) x u) (h:kM st x=some y) (d:Nat):A0 w0 ρ st w d H (zB d) y (iB x) u:=by
 unfold kM at h;split at h
 ·rename_i hf;simp only[Option.some.injEq] at h;subst h;have hk:iB x=[]:=by cases hf<;>rfl
  rw[hk];refine⟨by simp,fun c=>?_⟩
  rw[Jv hf];exact⟨rfl,fun D hD _=>⟨hu.flat hf fun b o hb=>hD _ _ (hH _ _ hb),by simp⟩⟩
 ·split at h
  ·rename_i s g _;split at h
   ·rename_i e sz n cs he;split at h
    ·rename_i hf;simp only[Option.some.injEq] at h;subst h;obtain⟨_,h1,xs,ho,hc⟩:=S.sT s g _ he
     have hu':u=ρ s g:=by cases hu;rfl
     subst hu'
     refine⟨by simp[iB];exact⟨_,he⟩,fun c=>⟨rfl,fun D hD lC=>?_⟩⟩
     obtain⟨k1,k2⟩:=lC 0 (s,g) rfl
     simp only[Nat.add_zero] at k1 k2;refine⟨?_,fun i e' k hi hk=>?_⟩
     ·have:=cZ.own (C:=D) d c k1 (by rw[k2];exact h1)
      rw[k2] at this;exact this
     ·match i with
      | 0 =>
        simp only[zB,iB,List.getElem?_cons_zero,Option.some.injEq] at hi hk;subst hi;subst hk;exact⟨xs,ho,hc.flat hf fun b o hb=>hD _ _ (hH _ _ hb)⟩
      | i+1=>simp[iB] at hk
    ·cases h
   ·cases h
  ·cases h
theorem aAC {f:Nat→AV→AV × List oB} {kf:AV→List (Nat × Nat)} {d:Nat}:∀(xs ys:List AV) (us:List Value),xs.length=ys.length→xs.length=us.length →
 (∀(i:Nat) (x y:AV) (u:Value),xs[i]? = some x→ys[i]? = some y→us[i]? = some u→A0 w0 ρ st w d H f y (kf x) u) →
 (∀k∈xs.flatMap kf,∃e,st.heap k.1 k.2=some e)∧∀c,(qQ f c ys).2.length=(xs.flatMap kf).length∧∀D:Ctx,(∀b o,H b o→D.h b o) →
  (∀(i:Nat) (k:Nat × Nat),(xs.flatMap kf)[i]? = some k→c+i<D.aT d∧D.ρ d (c+i)=ρ k.1 k.2) →
  lS D (qQ f c ys).1 us∧∀(i:Nat) (e:oB) (k:Nat × Nat),(qQ f c ys).2[i]? = some e→(xs.flatMap kf)[i]? = some k→nJ D w w0.heap.size (ρ k.1 k.2) e
 | [],ys,us,h1,h2,_=>by
   have e1:ys=[]:=List.length_eq_zero_iff.1 (by simpa using h1.symm)
   have e2:us=[]:=List.length_eq_zero_iff.1 (by simpa using h2.symm)
   subst e1;subst e2;exact⟨by simp,fun c=>⟨rfl,fun D _ _=>⟨.nil _,by simp[qQ]⟩⟩⟩
 | x :: xs,[],us,h1,_,_=>by simp at h1
 | x :: xs,y :: ys,[],_,h2,_=>by simp at h2
 | x :: xs,y :: ys,u :: us,h1,h2,hg=>by
   obtain⟨g1,g2⟩:=hg 0 x y u rfl rfl rfl
   obtain⟨i1,i2⟩:=aAC xs ys us (by simpa using h1) (by simpa using h2) fun i x' y' u' hx hy hu=>hg (i+1) x' y' u' (by simpa using hx) (by simpa using hy) (by simpa using hu)
   refine⟨fun k hk=>?_,fun c=>?_⟩
   ·simp only[List.flatMap_cons,List.mem_append] at hk;rcases hk with hk|hk
    ·exact g1 k hk
    ·exact i1 k hk
   ·obtain⟨l1,m1⟩:=g2 c
    obtain⟨l2,m2⟩:=i2 (c+(f c y).2.length)
    rw[l1] at l2 m2;simp only[qQ,List.flatMap_cons,List.length_append,l1];refine⟨by rw[l2],fun D hD lC=>?_⟩
    obtain⟨r1,e1⟩:=m1 D hD fun i k hk=>lC i k (by rw[List.getElem?_append_left (List.getElem?_eq_some_iff.1 hk).1];exact hk)
    obtain⟨r2,e2⟩:=m2 D hD fun i k hk=>by
     have:=lC ((kf x).length+i) k (by rw[List.getElem?_append_right (by omega)];simpa using hk)
     rw[Nat.add_assoc];exact this
    refine⟨.cons r1 r2,fun i e k hi hk=>?_⟩
    by_cases aY:i<(kf x).length
    ·rw[List.getElem?_append_left (by rw[l1];exact aY)] at hi
     rw[List.getElem?_append_left aY] at hk;exact e1 i e k hi hk
    ·rw[List.getElem?_append_right (by rw[l1];omega),l1] at hi
     rw[List.getElem?_append_right (by omega)] at hk
     exact e2 _ e k hi hk
theorem Zy {α β:Type} {f:α→Option β} {l:List α} {r:List β} (h:cP (l.map f)=some r):l.length=r.length∧∀(i:Nat) x y,l[i]? = some x→r[i]? = some y→f x=some y:=by
 have hm:=jI _ _ h
 have hl:l.length=r.length:=by have:=congrArg List.length hm;simpa using this
 refine⟨hl,fun i x y hx hy=>?_⟩
 have:=congrArg (·[i]?) hm
 simp only[List.getElem?_map,hx,hy,Option.map_some,Option.some.injEq] at this;exact this
theorem aGa (S:kX F h0 w0 nt ρ st a w) (hH:∀b o,(ctx h0 w0 ρ st w).h b o→H b o) {x y:AV} {u:Value} (hu:cZ (ctx h0 w0 ρ st w) x u) (h:sF st x=some y) (d:Nat):A0 w0 ρ st w d H (Uq d) y (jE x) u:=by
 cases x
 case agg cs =>
  simp only[sF,Option.map_eq_some_iff] at h;obtain⟨ds,Sf,rfl⟩:=h
  obtain⟨hl,H6⟩:=Zy Sf
  cases hu with
  | agg _ ar hla hr h1 =>
    obtain⟨g1,g2⟩:=aAC (w0:=w0) (ρ:=ρ) (st:=st) (w:=w) (H:=H) (f:=zB d) (kf:=iB) (d:=d) cs ds ar.toList hl (by simpa using hla) fun i x y v hx hy hv=>aAB S hH (hr i x v hx (by simpa using hv)) (H6 i x y hx hy) d
    refine⟨g1,fun c=>?_⟩
    obtain⟨l1,m1⟩:=g2 c
    refine⟨l1,fun D hD lC=>?_⟩
    obtain⟨r1,e1⟩:=m1 D hD lC
    exact⟨.agg _ ar (by simpa using r1.len) (fun i x y hx hy=>r1.rel i x y hx (by simpa using hy)) h1,e1⟩
 all_goals
  have g:=aAB S hH hu h d
  cases y<;>first|exact g|skip
  all_goals
   exfalso
   simp only[sF] at h;unfold kM at h;split at h
   ·simp at h
   ·simp at h
    try (split at h<;>(try split at h)<;>simp at h)
theorem aGb (S:kX F h0 w0 nt ρ st a w) (hH:∀b o,(ctx h0 w0 ρ st w).h b o→H b o) {x y:AV} {u:Value} (hu:cZ (ctx h0 w0 ρ st w) x u) (h:Cy st x=some y) (d:Nat):A0 w0 ρ st w d H (ZF d) y (lY x) u:=by
 cases x
 case eG cs =>
  simp only[Cy,Option.map_eq_some_iff] at h;obtain⟨ds,Sf,rfl⟩:=h
  obtain⟨hl,H6⟩:=Zy Sf
  cases hu with
  | eG _ ar hla hr =>
    obtain⟨g1,g2⟩:=aAC (w0:=w0) (ρ:=ρ) (st:=st) (w:=w) (H:=H) (f:=Uq d) (kf:=jE) (d:=d) cs ds ar.toList hl (by simpa using hla) fun i x y v hx hy hv=>aGa S hH (hr i x v hx (by simpa using hv)) (H6 i x y hx hy) d
    refine⟨g1,fun c=>?_⟩
    obtain⟨l1,m1⟩:=g2 c
    refine⟨l1,fun D hD lC=>?_⟩
    obtain⟨r1,e1⟩:=m1 D hD lC
    exact⟨.eG _ ar (by simpa using r1.len) (fun i x y hx hy=>r1.rel i x y hx (by simpa using hy)),e1⟩
 case agg cs =>
  have g:=aGa S hH hu h d
  cases y<;>first|exact g|(simp only[Cy,sF,Option.map_eq_some_iff] at h;obtain⟨_,_,h⟩:=h;cases h)
 all_goals
  have g:=aAB S hH hu h d
  cases y<;>first|exact g|skip
  all_goals
   exfalso
   simp only[Cy,sF] at h;unfold kM at h;split at h
   ·simp at h
   ·simp at h
    try (split at h<;>(try split at h)<;>simp at h)
theorem Uk (S:kX F h0 w0 nt ρ st a w) {x r:AV} {u:Value} (hu:cZ (ctx h0 w0 ρ st w) x u) (hn:(lY x).Nodup) (h:Cy st x=some r):PF h0 w0 w r u:=by
 have hH:∀b o,(ctx h0 w0 ρ st w).h b o→newHs h0 w0 w ((lY x).map fun k=>ρ k.1 k.2) b o:=fun b o hb=>by
  have g:=(aGb (H:=(ctx h0 w0 ρ st w).h) S (fun _ _ h=>h) hu h 0).1
  refine⟨hb.1,hb.2.1,fun y hy=>?_⟩
  obtain⟨k,hk,rfl⟩:=List.mem_map.1 hy
  obtain⟨e,he⟩:=g k hk
  exact hb.2.2 _ _ e he
 have g:=fun d=>aGb S hH hu h d
 have key:∀y∈(lY x).map (fun k=>ρ k.1 k.2),∃k e,k∈lY x∧y=ρ k.1 k.2∧st.heap k.1 k.2=some e:=fun y hy=>by
  obtain⟨k,hk,rfl⟩:=List.mem_map.1 hy
  obtain⟨e,he⟩:=(g 0).1 k hk
  exact⟨k,e,hk,rfl,he⟩
 refine⟨(lY x).map fun k=>ρ k.1 k.2,fun y hy=>?_,fun i j y z b hy hz hb oF=>?_,fun y hy b hb=>?_,fun d c=>by rw[((g d).2 c).1];simp,fun D d c hD lC=>?_⟩
 ·obtain⟨k,e,_,rfl,he⟩:=key y hy
  exact (S.sT _ _ e he).2.1
 ·rw[List.getElem?_map] at hy hz;cases hi:(lY x)[i]? with
  | none=>simp[hi] at hy
  | some k=>cases hj:(lY x)[j]? with
    | none=>simp[hj] at hz
    | some k' =>
      simp only[hi,hj,Option.map_some,Option.some.injEq] at hy hz;subst hy;subst hz;obtain⟨e,he⟩:=(g 0).1 k (List.mem_of_getElem? hi)
      obtain⟨e',Ap⟩:=(g 0).1 k' (List.mem_of_getElem? hj)
      obtain⟨q1,q2⟩:=S.inj _ _ _ _ e e' b he Ap hb oF
      have U8:k=k':=Prod.ext q1 q2
      subst U8;obtain⟨hil,Cg⟩:=List.getElem?_eq_some_iff.1 hi
      obtain⟨hjl,hje⟩:=List.getElem?_eq_some_iff.1 hj
      have hp:=List.pairwise_iff_getElem.1 hn
      rcases Nat.lt_trichotomy i j with aY|heq|aY
      ·exact absurd (Cg.trans hje.symm) (hp i j hil hjl aY)
      ·exact heq
      ·exact absurd (hje.trans Cg.symm) (hp j i hjl hil aY)
 ·obtain⟨k,e,_,rfl,he⟩:=key y hy
  exact ((S.sT _ _ e he).2.2.TC b hb).1
 ·obtain⟨r1,e1⟩:=((g d).2 c).2 D hD fun i k hk=>lC i _ (by rw[List.getElem?_map,hk];rfl)
  refine⟨r1,fun i e y hi hy=>?_⟩
  rw[List.getElem?_map] at hy;cases hk:(lY x)[i]? with
  | none=>simp[hk] at hy
  | some k =>
    simp only[hk,Option.map_some,Option.some.injEq] at hy;subst hy;exact e1 i e k hi hk
end qR
theorem DF {h0:Nat→Obj→Prop} {w0:World} {F:Fx} {nt:Nat} {ρ:Nat→Nat→Value} {st:St} {a:Act} {w:World} (S:kX F h0 w0 nt ρ st a w) {fn:Func} {r:AV} (h:Nk P fn st=some r) :
 ∃v,(results fn a.tmps).run P w=.ok v w∧PF h0 w0 w r v:=by
 have PX:∀(ys:List Value),(fn.results.toList.mapM (Ae a.tmps)).run P w=.ok ys w →
  (results fn a.tmps).run P w=.ok (if h:ys.toArray.size=1 then ys.toArray[0] else .tuple ys.toArray) w:=by
  intro ys Va;have e:results fn a.tmps=(do let vs ← fn.results.mapM (Ae a.tmps);pure (if h:vs.size=1 then vs[0] else .tuple vs)):=by
   unfold results;congr 1
  rw[e,Array.mapM_eq_mapM_toList];simp only[Sem.run_bind,Sem.run_map,Va,Result.andThen_ok,Sem.run_pure]
 unfold Nk at h;split at h
 ·rename_i r1 O9;cases h1:lR P st r1 with
  | none=>simp[h1,cT] at h
  | some x =>
    simp only[h1,cT] at h;split at h
    ·rename_i hn;obtain⟨ys,Va,gC⟩:=mD (P:=P) S [r1] [x] (by simp[h1])
     have hlen:=gC.len
     obtain⟨y,rfl⟩:∃y,ys=[y]:=by
      cases ys with
      | nil=>simp at hlen
      | cons y ys=>cases ys with
        | nil=>exact⟨y,rfl⟩
        | cons z zs=>simp at hlen
     have qH:=PX [y] (by rw[O9];exact Va)
     simp at qH
     exact⟨y,qH,Uk S gC.head hn h⟩
    ·cases h
 ·rename_i rs gP;cases IS:cP (fn.results.toList.map fun r=>lR P st r) with
  | none=>simp[IS,cT] at h
  | some xs =>
    simp only[IS,cT] at h;split at h
    ·rename_i hn;have e1:=jI _ _ IS
     obtain⟨ys,Va,gC⟩:=mD S _ xs e1
     have yF:xs.length=fn.results.toList.length:=by have:=congrArg List.length e1;simpa using this.symm
     have aAA:ys.toArray.size≠1:=by
      intro h1;have hlen:=gC.len
      simp only[List.size_toArray] at h1;have:fn.results.toList.length=1:=by omega
      obtain⟨z,hz⟩:=List.length_eq_one_iff.1 this
      exact gP z hz
     have qH:=PX ys Va
     rw[dif_neg aAA] at qH;exact⟨_,qH,Uk S (.eG xs ys.toArray (by simpa using gC.len) fun i x y hx hy=>gC.rel i x y hx (by simpa using hy)) hn h⟩
    ·cases h
theorem DG {h0:Nat→Obj→Prop} {w0:World} {F:Fx} {nt:Nat} {ρ:Nat→Nat→Value} {st:St} {a:Act} {w:World} (S:kX F h0 w0 nt ρ st a w) {f:Nat} {fn:Func} {r:AV} (h:jS P f fn st=some r) :
 ∃v,(results fn a.tmps).run P w=.ok v w∧PF h0 w0 w r v:=by
 unfold jS at h;split at h
 ·exact DF S h
 ·exact JI S h
theorem aAD {h0:Nat→Obj→Prop} {w:World} {xs:List AV} {vs:Array Value} {nt:Nat} (hh:∀b o,h0 b o→w.heap[b]? = some o) (gC:lS (bare h0) xs vs.toList) :
 kX Fx.none h0 w nt (fun _ _=>undef) (St.init xs) { tmps:=vs++Array.replicate (nt-vs.size) undef,defers:=[]} w:=by
 have k:(bare h0).Le (ctx h0 w (fun _ _=>undef) (St.init xs) w):=⟨fun b o h=>⟨hh b o h,fun _=>h,fun s g e he=>by simp[St.init] at he⟩,fun _=>Nat.le_refl _,fun _ _ h=>absurd h (by simp[bare])⟩
 refine⟨fun t=>?_,fun s g e he=>by simp[St.init] at he,fun s g s' g' e e' b he=>by simp[St.init] at he,⟨rfl,rfl,rfl,Nat.le_refl _,fun _ _ _=>rfl⟩,by simp;omega,rfl,⟨fun x v h=>h.elim,fun b o h=>h.elim,Nat.zero_le _⟩⟩
 have hlen:=gC.len
 simp only[Array.length_toList] at hlen;show cZ _ ((xs[t]?).getD (.v undef)) _
 by_cases ht:t<vs.size
 ·have hx:xs[t]? = some (xs[t]'(by omega)):=by simp[show t<xs.length by omega]
  have hy:vs.toList[t]? = some vs[t]:=by simp[ht]
  have:=(gC.rel t _ _ hx hy).le k
  rw[hx];simp only[Option.getD_some];have e:(vs++Array.replicate (nt-vs.size) undef).getD t undef=vs[t]:=by
   simp[Array.getElem?_append_left ht,ht]
  rw[e];exact this
 ·have hx:xs[t]? = none:=List.getElem?_eq_none (by omega)
  rw[hx];have e:(vs++Array.replicate (nt-vs.size) undef).getD t undef=undef:=by
   rw[Array.getD_eq_getD_getElem?,Array.getElem?_append_right (by omega),Array.getElem?_replicate]
   split<;>rfl
  rw[e];exact .v _
def Tz (P:Program):Prop:=rH P Ext.ext
theorem aDA {h0:Nat→Obj→Prop} {w0:World} {F:Fx} {nt:Nat} {ρ:Nat→Nat→Value} {st:St} {a:Act} {w:World} (S:kX F h0 w0 nt ρ st a w) {xs:List AV} {vs:Array Value} {n:Nat} (gC:lS (ctx h0 w0 ρ st w) xs vs.toList) :
 kX ⟨fun x v=>F.fr x v∨∃t,x=st.env t∧v=a.tmps.getD t undef,F.hb,F.sz⟩ h0 w0 n ρ ((St.init xs).back st) { tmps:=vs++Array.replicate (n-vs.size) undef,defers:=[]} w:=by
 have hc:ctx h0 w0 ρ ((St.init xs).back st) w=ctx h0 w0 ρ st w:=rfl
 refine⟨fun t=>?_,fun s g e he=>?_,fun s g s' g' e e' b he Ap=>S.inj s g s' g' e e' b he Ap,S.ext,by simp;omega,rfl,⟨fun x v h=>?_,S.Nd.2.1,S.Nd.2.2⟩⟩
 ·have hlen:=gC.len
  simp only[Array.length_toList] at hlen;show cZ _ ((xs[t]?).getD (.v undef)) _
  by_cases ht:t<vs.size
  ·have hx:xs[t]? = some (xs[t]'(by omega)):=by simp[show t<xs.length by omega]
   have hy:vs.toList[t]? = some vs[t]:=by simp[ht]
   have:=gC.rel t _ _ hx hy
   rw[hx];simp only[Option.getD_some];have e:(vs++Array.replicate (n-vs.size) undef).getD t undef=vs[t]:=by
    simp[Array.getElem?_append_left ht,ht]
   rw[e];exact this
  ·have hx:xs[t]? = none:=List.getElem?_eq_none (by omega)
   rw[hx];have e:(vs++Array.replicate (n-vs.size) undef).getD t undef=undef:=by
    rw[Array.getD_eq_getD_getElem?,Array.getElem?_append_right (by omega),Array.getElem?_replicate]
    split<;>rfl
   rw[e];exact .v _
 ·exact S.sT s g e he
 ·rcases h with h|⟨t,rfl,rfl⟩
  ·exact S.Nd.1 x v h
  ·exact S.env t
theorem DH {h0:Nat→Obj→Prop} {w0:World} {F:Fx} {nt:Nat} {ρ:Nat→Nat→Value} {st:St} {a:Act} {w:World} (S:kX F h0 w0 nt ρ st a w) {fn:Func} {r:AV} (h:Bc P fn st=some r) :
 ∃v,(results fn a.tmps).run P w=.ok v w∧cZ (ctx h0 w0 ρ st w) r v:=by
 have PX:∀(ys:List Value),(fn.results.toList.mapM (Ae a.tmps)).run P w=.ok ys w →
  (results fn a.tmps).run P w=.ok (if h:ys.toArray.size=1 then ys.toArray[0] else .tuple ys.toArray) w:=by
  intro ys Va;have e:results fn a.tmps=(do let vs ← fn.results.mapM (Ae a.tmps);pure (if h:vs.size=1 then vs[0] else .tuple vs)):=by
   unfold results;congr 1
  rw[e,Array.mapM_eq_mapM_toList];simp only[Sem.run_bind,Sem.run_map,Va,Result.andThen_ok,Sem.run_pure]
 unfold Bc at h;split at h
 ·rename_i r1 O9;obtain⟨ys,Va,gC⟩:=mD (P:=P) S [r1] [r] (by simp[h])
  have hlen:=gC.len
  obtain⟨y,rfl⟩:∃y,ys=[y]:=by
   cases ys with
   | nil=>simp at hlen
   | cons y ys=>cases ys with
     | nil=>exact⟨y,rfl⟩
     | cons z zs=>simp at hlen
  have qH:=PX [y] (by rw[O9];exact Va)
  simp at qH
  exact⟨y,qH,gC.head⟩
 ·rename_i rs gP;cases IS:cP (fn.results.toList.map fun r=>lR P st r) with
  | none=>simp[IS] at h
  | some xs =>
    simp only[IS,Option.map_some,Option.some.injEq] at h;subst h;have e1:=jI _ _ IS
    obtain⟨ys,Va,gC⟩:=mD S _ xs e1
    have yF:xs.length=fn.results.toList.length:=by have:=congrArg List.length e1;simpa using this.symm
    have aAA:ys.toArray.size≠1:=by
     intro h1;have hlen:=gC.len
     simp only[List.size_toArray] at h1;have:fn.results.toList.length=1:=by omega
     obtain⟨z,hz⟩:=List.length_eq_one_iff.1 this
     exact gP z hz
    have qH:=PX ys Va
    rw[dif_neg aAA] at qH;exact⟨_,qH,.eG xs ys.toArray (by simpa using gC.len) fun i x y hx hy=>gC.rel i x y hx (by simpa using hy)⟩
theorem DI {xs:List AV} {u:Nat × Nat × Nat × List AV × List AV} (h:uB xs=some u):xs=.uniq u.1 u.2.1 u.2.2.1 u.2.2.2.1 :: u.2.2.2.2:=by
 unfold uB at h;split at h
 ·simp only[Option.some.injEq] at h;subst h;rfl
 ·cases h
theorem I4 {h0:Nat→Obj→Prop} {w:World} {v0:Value} {e sz m:Nat} {cs xs:List AV} {ys:List Value} {vs:Array Value} {nt:Nat} (hh:∀b o,h0 b o→w.heap[b]? = some o) (gP:∀b o,h0 b o→dK v0≠some b) (ho:oH w 0 e sz v0 m ys) (hc:gF (bare h0) cs ys) (gC:lS (bare h0) xs vs.toList) :
 kX ⟨fun _ _=>False,fun b o=>w.heap[b]? = some o∧dK v0≠some b,w.heap.size⟩ h0 { w with heap:=#[]} nt (fun s g=>if s=0∧g=0 then v0 else undef) (St.tJ e sz m cs xs) { tmps:=(#[v0]++vs)++Array.replicate (nt-(#[v0]++vs).size) undef,defers:=[]} w:=by
 have Ad:∀s g e',(St.tJ e sz m cs xs).heap s g=some e'→s=0∧g=0∧e'=.row e sz m cs:=fun s g e' h=>by
  simp only[St.tJ] at h;split at h
  ·rename_i h1;cases h;exact⟨h1.1,h1.2,rfl⟩
  ·cases h
 have k:(bare h0).Le (ctx h0 { w with heap:=#[]} (fun s g=>if s=0∧g=0 then v0 else undef) (St.tJ e sz m cs xs) w) :=
  ⟨fun b o h=>⟨hh b o h,fun aY=>by simp at aY,fun s g e' he=>by
   obtain⟨rfl,rfl,_⟩:=Ad _ _ _ he
   exact gP b o h⟩,fun _=>Nat.zero_le _,fun _ _ h=>absurd h (by simp[bare])⟩
 refine⟨fun t=>?_,fun s g e' he=>?_,fun s g s' g' e1 e2 b he Ap _ _=>?_,⟨rfl,rfl,rfl,Nat.zero_le _,fun b hb _=>by simp at hb⟩,by simp;omega,rfl,⟨fun x v h=>h.elim,fun b o h=>⟨h.1,fun aY=>by simp at aY,fun s g e' he=>?_⟩,Nat.le_refl _⟩⟩
 ·have hlen:=gC.len
  simp only[Array.length_toList] at hlen;cases t with
  | zero =>
    have e0:((#[v0]++vs)++Array.replicate (nt-(#[v0]++vs).size) undef).getD 0 undef=v0:=by
     simp[Array.getElem?_append]
    rw[e0];have:=cZ.own (C:=ctx h0 { w with heap:=#[]} (fun s g=>if s=0∧g=0 then v0 else undef) (St.tJ e sz m cs xs) w) 0 0 (by show 0<(St.tJ e sz m cs xs).aT 0;simp[St.tJ]) (by show (if (0:Nat)=0∧(0:Nat)=0 then v0 else undef).oneCell'=true;simp;exact tK ho)
    have e1:(ctx h0 { w with heap:=#[]} (fun s g=>if s=0∧g=0 then v0 else undef) (St.tJ e sz m cs xs) w).ρ 0 0=v0:=by show (if (0:Nat)=0∧(0:Nat)=0 then v0 else undef)=v0;simp
    rw[e1] at this;exact this
  | succ t =>
    show cZ _ ((xs[t]?).getD (.v undef)) _
    by_cases ht:t<vs.size
    ·have hx:xs[t]? = some (xs[t]'(by omega)):=by simp[show t<xs.length by omega]
     have hy:vs.toList[t]? = some vs[t]:=by simp[ht]
     have:=(gC.rel t _ _ hx hy).le k
     rw[hx];simp only[Option.getD_some];have e2:((#[v0]++vs)++Array.replicate (nt-(#[v0]++vs).size) undef).getD (t+1) undef=vs[t]:=by
      rw[Array.getD_eq_getD_getElem?,Array.getElem?_append_left (by simp;omega),Array.getElem?_append_right (by simp)]
      simp[ht]
     rw[e2];exact this
    ·have hx:xs[t]? = none:=List.getElem?_eq_none (by omega)
     rw[hx];have e2:((#[v0]++vs)++Array.replicate (nt-(#[v0]++vs).size) undef).getD (t+1) undef=undef:=by
      rw[Array.getD_eq_getD_getElem?,Array.getElem?_append_right (by simp;omega),Array.getElem?_replicate]
      split<;>rfl
     rw[e2];exact .v _
 ·obtain⟨rfl,rfl,rfl⟩:=Ad _ _ _ he
  refine⟨by simp[St.tJ],by simp;exact tK ho, ?_⟩
  simp only[and_self,if_true];exact⟨ys,ho,hc.le k⟩
 ·obtain⟨rfl,rfl,_⟩:=Ad _ _ _ he
  obtain⟨rfl,rfl,_⟩:=Ad _ _ _ Ap
  exact⟨rfl,rfl⟩
 ·obtain⟨rfl,rfl,_⟩:=Ad _ _ _ he
  exact h.2
theorem aDB (hm:P.follows .mixedOrders=true) {call:Nat→List AV→Option AV} {inl:Nat→List AV→St→Option (AV × St)} (kK:rH P call) (Ps:Zs P inl) {n g:Nat} {xs:List AV} {u:Nat × Nat × Nat × List AV × List AV} (hq:uB xs=some u) {r:AV}
 (h:runM P call inl n g u.1 u.2.1 u.2.2.1 u.2.2.2.1 u.2.2.2.2=some r):Ie P g∧Ia P g xs r:=by
 have IS:=DI hq
 subst IS;obtain⟨e,sz,m,cs,rest⟩:=u
 simp only at h ⊢
 unfold runM at h;cases hf:P.funcs[g]? with
 | none=>simp[hf] at h
 | some fn =>
   simp only[hf] at h;split at h
   ·rename_i oZ;cases hb:fn.body with
    | none=>simp[hb] at h
    | some c =>
      simp only[hb] at h;simp only[sX,EP,hb,Bool.and_eq_true,bne_iff_ne,ne_eq] at oZ;refine⟨⟨fn,hf,by simpa using oZ.1,by simp[hb]⟩, ?_⟩
      show WJ P g e sz m cs rest r
      intro w h0 v0 ys vs hh gP ho zK gC;cases h1:uZ P (oE c) call inl n c (St.tJ e sz m cs rest) with
      | none=>simp[h1,cT] at h
      | some es =>
        obtain⟨ex,sf⟩:=es
        simp only[h1,cT] at h;refine calls_of_wp hf hb ?_
        refine pY hm kK Ps n c (St.tJ e sz m cs rest) sf ex _ _ w _ oZ.2 (I4 hh gP ho zK gC) h1 fun oG a' w' S'=>?_
        have fin:Jj P fn sf=some r→∃e' tT n' Ek,r=.uniq e' tT n' Ek∧a'.defers=[]∧∃v',(results fn a'.tmps).run P w'=.ok v' w'∧w.grownBy w' (dK v0) ∧
         ∃zs,oH w' 0 e' tT v' n' zs∧gF (bare h0) Ek zs∧∀b,dK v'=some b→dK v0=some b∨w.heap.size≤b:=fun h=>by
         unfold Jj at h;split at h
         ·rename_i r1 O9;split at h
          ·rename_i s k hrv;split at h
           ·rename_i e' tT n' Ek hhp
            split at h
            ·rename_i hmf;simp only[Option.some.injEq] at h;subst h;obtain⟨y,hy,Pk⟩:=mD (P:=P) S' [r1] [.own s k] (by simp[hrv])
             have hlen:=Pk.len
             obtain⟨z,rfl⟩:∃z,y=[z]:=by
              cases y with
              | nil=>simp at hlen
              | cons y ys=>cases ys with
                | nil=>exact⟨y,rfl⟩
                | cons z zs=>simp at hlen
             have hz:z=oG s k:=by
              have:=Pk.head
              cases this
              rfl
             subst hz;have qH:(results fn a'.tmps).run P w'=.ok (oG s k) w':=by
              have e1:results fn a'.tmps=(do let vs ← fn.results.mapM (Ae a'.tmps);pure (if h:vs.size=1 then vs[0] else .tuple vs)):=by
               unfold results;congr 1
              rw[e1,Array.mapM_eq_mapM_toList,O9];simp only[Sem.run_bind,Sem.run_map,hy,Result.andThen_ok,Sem.run_pure];simp
             obtain⟨_,_,zs,hzo,hzc⟩:=S'.sT s k _ hhp
             obtain⟨_,hkb,WA⟩:=S'.Nd
             refine⟨e',tT,n',Ek,rfl,S'.defers,_,qH,⟨S'.ext.os,S'.ext.tape,S'.ext.output,WA,fun b hb hnb=>?_⟩,zs, ?_, ?_,fun b hb=>?_⟩
             ·have GH:w.heap[b]? = some w.heap[b]:=Array.getElem?_eq_getElem hb
              rw[GH];exact (hkb b _ ⟨GH,fun h=>hnb h.symm⟩).1
             ·exact zF hzo (Nat.zero_le _)
             ·exact⟨hzc.len,fun i x y hx hy=>(hzc.rel i x y hx hy).Ph (hmf x (List.mem_of_getElem? hx)),hzc.one⟩
             ·by_cases h1:dK v0=some b
              ·exact .inl h1
              ·right
               rcases Nat.lt_or_ge b w.heap.size with aY|hge
               ·exfalso
                have GH:w.heap[b]? = some w.heap[b]:=Array.getElem?_eq_getElem aY
                exact (hkb b _ ⟨GH,h1⟩).2.2 s k _ hhp hb
               ·exact hge
            ·cases h
           ·cases h
          ·rename_i s k n0 hrv;split at h
           ·rename_i e' tT n' Ek hhp
            split at h
            ·rename_i hmf;obtain⟨Aq,hcl',hmf⟩:=hmf
             simp only[Option.some.injEq] at h;subst h;obtain⟨y,hy,Pk⟩:=mD (P:=P) S' [r1] [.vw s k 0 n0] (by simp[hrv])
             have hlen:=Pk.len
             obtain⟨z,rfl⟩:∃z,y=[z]:=by
              cases y with
              | nil=>simp at hlen
              | cons y ys=>cases ys with
                | nil=>exact⟨y,rfl⟩
                | cons z zs=>simp at hlen
             obtain⟨_,_,zs,hzo,hzc⟩:=S'.sT s k _ hhp
             obtain⟨_,hkb,WA⟩:=S'.Nd
             have hz:∃b cap cur,z=.slice (some ⟨b,0,none⟩) n0 cap∧dK (oG s k)=some b∧w'.heap[b]? = some (.cells cur e' (0,0))∧n0≤cap∧cap≤maxLen∧cur.size=cap * tT∧cur.toList.take (n' * tT)=zs∧0<cap:=by
              have hv:=Pk.head
              cases hv with
              | vw _ _ _ _ b cap hg hb mZ zD =>
                have oF:dK (oG s k)=some b:=hb
                rcases hzo.2 with ⟨q,lC,hn⟩|⟨b',CC,cur,lC,xE,hh,H7,VT,IQ,ht,qT⟩
                ·rw[lC,pX] at oF;cases oF
                ·have xL:b'=b:=by rw[lC,kJ qT] at oF;simpa using oF
                 subst xL;have hcc:cap=CC:=zD rfl _ _ _ lC
                 subst hcc;exact⟨b',cap,cur,rfl,oF,hh,mZ,VT,IQ,ht,qT⟩
             obtain⟨b,cap,cur,rfl,hbk,hhb,mZ,VT,IQ,ht,qT⟩:=hz
             have qH:(results fn a'.tmps).run P w'=.ok (.slice (some ⟨b,0,none⟩) n0 cap) w':=by
              have e1:results fn a'.tmps=(do let vs ← fn.results.mapM (Ae a'.tmps);pure (if h:vs.size=1 then vs[0] else .tuple vs)):=by
               unfold results;congr 1
              rw[e1,Array.mapM_eq_mapM_toList,O9];simp only[Sem.run_bind,Sem.run_map,hy,Result.andThen_ok,Sem.run_pure];simp
             have hks:n0 * tT≤n' * tT:=Nat.mul_le_mul_right _ Aq
             refine⟨e',tT,n0,_,rfl,S'.defers,_,qH,⟨S'.ext.os,S'.ext.tape,S'.ext.output,WA,fun b hb hnb=>?_⟩,zs.take (n0 * tT), ?_, ?_,fun b1 TZ=>?_⟩
             ·have GH:w.heap[b]? = some w.heap[b]:=Array.getElem?_eq_getElem hb
              rw[GH];exact (hkb b _ ⟨GH,fun h=>hnb h.symm⟩).1
             ·refine⟨by rw[List.length_take,hzo.1];omega,.inr ⟨b,cap,cur,rfl,Nat.zero_le _,hhb,mZ,VT,IQ, ?_,qT⟩⟩
              rw[← ht,List.take_take,Nat.min_eq_left hks]
             ·have hz2:gF (bare h0) Ek zs:=⟨hzc.len,fun i x y hx hy=>(hzc.rel i x y hx hy).Ph (hmf x (List.mem_of_getElem? hx)),hzc.one⟩
              exact hz2.take _
             ·rw[kJ qT] at TZ;simp only[Option.some.injEq] at TZ;subst TZ;by_cases h1:dK v0=some b
              ·exact .inl h1
              ·right
               rcases Nat.lt_or_ge b w.heap.size with aY|hge
               ·exfalso
                have GH:w.heap[b]? = some w.heap[b]:=Array.getElem?_eq_getElem aY
                exact (hkb b _ ⟨GH,h1⟩).2.2 s k _ hhp hbk
               ·exact hge
            ·cases h
           ·cases h
          ·cases h
         ·cases h
        cases ex with
        | normal=>obtain⟨e',tT,n',Ek,rfl,h1,v',h2,h3,h4⟩:=fin h;exact⟨h1,v',h2,v',rfl,h3,h4⟩
        | ret=>obtain⟨e',tT,n',Ek,rfl,h1,v',h2,h3,h4⟩:=fin h;exact⟨h1,v',h2,v',rfl,h3,h4⟩
        | exit id=>cases h
   ·cases h
theorem A1 (hm:P.follows .mixedOrders=true) (hx:Tz P):∀n,rH P (Nc P n)∧Zs P (Wu P n)
 | 0=>⟨fun g xs r h=>hx g xs r h,fun g xs st r s' h=>by cases h⟩
 | n+1=>by
   obtain⟨ihc,ihi⟩:=A1 hm hx n
   refine⟨fun g xs r h=>?_,fun g xs st r s' h=>?_⟩
   ·rw[zC] at h;split at h
    ·rename_i r' he
     simp only[Option.some.injEq] at h;subst h;exact hx g xs _ he
    ·cases hq:uB xs with
     | some u =>
       simp only[hq] at h;exact aDB hm ihc ihi hq h
     | none =>
     simp only[hq] at h;split at h
     ·cases h
     rename_i hnu;unfold C0 at h;cases hf:P.funcs[g]? with
     | none=>simp[hf] at h
     | some fn =>
       simp only[hf] at h;split at h
       ·rename_i oZ;cases hb:fn.body with
        | none=>simp[hb] at h
        | some c =>
          simp only[hb] at h;simp only[sX,EP,hb,Bool.and_eq_true,bne_iff_ne,ne_eq] at oZ;have hX:IJ P g xs r→Ia P g xs r:=fun h=>by
           unfold Ia;split
           ·simp[uA] at hnu
           ·exact h
          refine⟨⟨fn,hf,by simpa using oZ.1,by simp[hb]⟩,hX fun w h0 vs hh gC=>?_⟩
          cases h1:uZ P (oE c) (Nc P n) (Wu P n) n c (St.init xs) with
          | none=>simp[h1,cT] at h
          | some es =>
            obtain⟨ex,sf⟩:=es
            simp only[h1,cT] at h;refine calls_of_wp hf hb ?_
            refine pY hm ihc ihi n c (St.init xs) sf ex _ _ w _ oZ.2 (aAD hh gC) h1 fun oG a' w' S'=>?_
            have fin:jS P g fn sf=some r→a'.defers=[]∧∃v,(results fn a'.tmps).run P w'=.ok v w'∧∃v',Ending.returned v=.returned v'∧PF h0 w w' r v'∧w.grownBy w' none:=fun h=>by
             obtain⟨v,hv,hr⟩:=DG S' h
             exact⟨S'.defers,v,hv,v,rfl,hr,S'.ext⟩
            cases ex with
            | normal=>exact fin h
            | ret=>exact fin h
            | exit id=>cases h
       ·cases h
   ·rw[Nm] at h;unfold C1 at h;cases hf:P.funcs[g]? with
    | none=>simp[hf] at h
    | some fn =>
      simp only[hf] at h;split at h
      ·rename_i oZ;cases hb:fn.body with
       | none=>simp[hb] at h
       | some c =>
         simp only[hb] at h;simp only[EP,hb,Bool.and_eq_true,bne_iff_ne,ne_eq] at oZ;refine⟨⟨fn,hf,by simpa using oZ.1,by simp[hb]⟩,fun F h0 w0 nt ρ a w vs K S gC hK=>?_⟩
         cases h1:uZ P true (Nc P n) (Wu P n) n c ((St.init xs).back st) with
         | none=>simp[h1,cT] at h
         | some es =>
           obtain⟨ex,sf⟩:=es
           simp only[h1,cT] at h;refine calls_of_wp hf hb ?_
           refine pY (F:=⟨fun x v=>F.fr x v∨∃t,x=st.env t∧v=a.tmps.getD t undef,F.hb,F.sz⟩) hm ihc ihi n c ((St.init xs).back st) sf ex _ _ w _ oZ.2 (aDA S gC) h1 fun oG a' w' S'=>?_
           have fin:((Bc P fn sf).map fun x=>(x,sf))=some (r,s')→a'.defers=[]∧∃v,(results fn a'.tmps).run P w'=.ok v w'∧∃v',Ending.returned v=.returned v'∧K v' w':=fun h=>by
            cases hfi:Bc P fn sf with
            | none=>simp[hfi] at h
            | some x =>
              simp only[hfi,Option.map_some,Option.some.injEq,Prod.mk.injEq] at h;obtain⟨rfl,rfl⟩:=h
              obtain⟨v,hv,hr⟩:=DH S' hfi
              refine⟨S'.defers,v,hv,v,rfl,hK oG w' v ?_ hr⟩
              exact⟨fun t=>S'.Nd.1 _ _ (.inr ⟨t,rfl,rfl⟩),fun s g e he=>S'.sT s g e he,fun s g s2 g' e e' b he Ap=>S'.inj s g s2 g' e e' b he Ap,S'.ext,S.size,S.defers,⟨fun x v h=>S'.Nd.1 x v (.inl h),S'.Nd.2.1,S'.Nd.2.2⟩⟩
           cases ex with
           | normal=>exact fin h
           | ret=>exact fin h
           | exit id=>cases h
      ·cases h
theorem aHP (hm:P.follows .mixedOrders=true) (hx:Tz P) (n:Nat):rH P (Nc P n):=(A1 hm hx n).1
end
end Go.Ab
end
section
namespace Go.Ab
open Classical
variable [Ext]
noncomputable def lK {α:Type} (g:Nat→Option α):Option α:=if h:∃n r,g n=some r then some (Classical.choose (Classical.choose_spec h)) else none
theorem Wm {α:Type} {g:Nat→Option α} (hm:∀n r,g n=some r→g (n+1)=some r) {n m:Nat} (h:n≤m) {r:α} (hr:g n=some r):g m=some r:=by
 induction m with
 | zero=>have:n=0:=by omega
         subst this;exact hr
 | succ m ih =>
   rcases Nat.lt_or_ge m n with h'|h'
   ·have:n=m+1:=by omega
    subst this;exact hr
   ·exact hm m r (ih h')
theorem JJ {α:Type} {g:Nat→Option α} (hm:∀n r,g n=some r→g (n+1)=some r) (r:α):lK g=some r↔∃n,g n=some r:=by
 unfold lK;constructor
 ·intro h;split at h
  ·rename_i hh;simp only[Option.some.injEq] at h;exact⟨Classical.choose hh,by rw[← h];exact Classical.choose_spec (Classical.choose_spec hh)⟩
  ·cases h
 ·rintro⟨n,hn⟩
  have hh:∃n r,g n=some r:=⟨n,r,hn⟩
  rw[dif_pos hh];have h2:=Classical.choose_spec (Classical.choose_spec hh)
  congr 1
  rcases Nat.le_total n (Classical.choose hh) with hle|hle
  ·have:=Wm hm hle hn
   rw[h2] at this;exact Option.some.inj this
  ·have:=Wm hm hle h2
   rw[hn] at this;exact (Option.some.inj this).symm
theorem fU {α β:Type} {x:Option α} {f:α→Option β} {r:β}:cT x f=some r↔∃a,x=some a∧f a=some r:=by
 cases x<;>simp[cT]
def Zz (i i':Nat→List AV→St→Option (AV × St)):Prop:=∀g xs st r,i g xs st=some r→i' g xs st=some r
def wA (c c':Nat→List AV→Option AV):Prop:=∀g xs r,c g xs=some r→c' g xs=some r
section
variable (P:Program) {c c':Nat→List AV→Option AV} {i i':Nat→List AV→St→Option (AV × St)} {bi:Bool}
theorem AA {α β:Type} {x y:Option α} {f:α→Option β} {r:β} (h:∀a,x=some a→y=some a) (hx:cT x f=some r):cT y f=some r:=by
 cases Jq:x with
 | none=>simp[Jq,cT] at hx
 | some a=>rw[h a Jq];rw[Jq] at hx;exact hx
theorem Bv (h:wA c c') {g:Nat} {args:List AV} {st:St} {dst:Option Nat} {e:rX} (he:aM c g args st dst=some e):aM c' g args st dst=some e:=by
 unfold aM at *
 split at he
 ·rename_i hf;rw[if_pos hf];exact AA (h g args) he
 ·rename_i hf;rw[if_neg hf];split at he
  ·rename_i xs IS;exact AA (h g xs) he
  ·cases he
theorem PY (h:wA c c') {g:Nat} {args:List AV} {st:St} {dst:Option Nat} {e:rX} (he:lQ c g args st dst=some e):lQ c' g args st dst=some e:=by
 unfold lQ at *
 split at he
 ·split at he
  ·rename_i e0 sz n cs hh;split at he
   ·rename_i hc;rename_i rest _;simp only[hh,if_pos hc];cases hr:c g (.uniq e0 sz n cs :: rest) with
    | none=>simp[hr] at he
    | some r=>rw[h _ _ _ hr];rw[hr] at he;exact he
   ·cases he
  ·cases he
 ·split at he
  ·rename_i hc;rw[if_pos hc];exact Bv h he
  ·cases he
theorem JK (h:wA c c') {g:Nat} {args:List AV} {st:St} {dst:Option Nat} {e:rX} (he:fG c g args st dst=some e):fG c' g args st dst=some e:=by
 unfold fG at *
 split at he
 ·rename_i s k hk;split at he
  ·rename_i oZ;rw[if_pos oZ];split at he
   ·rename_i xs IS;exact AA (h g xs) he
   ·cases he
  ·cases he
 ·rename_i hk;exact Bv h he
theorem JL (h:wA c c') {f:Operand} {args:List AV} {st:St} {dst:Option Nat} {e:rX} (he:oD c f args st dst=some e):oD c' f args st dst=some e:=by
 cases f
 case func g =>
  simp only[oD] at *
  by_cases hm:Ext.mv g=true
  ·rw[if_pos hm] at *
   exact PY h he
  ·rw[if_neg hm] at *
   by_cases hm2:Ext.eat g dst=true
   ·rw[if_pos hm2] at *
    exact JK h he
   ·rw[if_neg hm2] at *
    exact Bv h he
 all_goals
  simp only[oD] at *
  split at he
  ·exact Bv h he
  ·cases he
theorem XC (h:wA c c') {o:Oper} {st:St} {e:rX} (he:dT P c o st=some e):dT P c' o st=some e:=by
 obtain⟨dst,op,type,pos,after,guard⟩:=o
 cases op
 case call cl =>
  simp only[dT] at *
  unfold iT at *
  split at he
  ·exact JL h he
  all_goals exact he
 case makeMap T r=>cases r<;>exact he
 all_goals exact he
theorem I5 (h:wA c c') {ops:Array Oper} {o:Oper} {st s:St} (he:cI P c ops o st=some s):cI P c' ops o st=some s:=by
 unfold cI at *
 split at he
 ·split at he
  ·rename_i b hg hb;rw[if_pos hb];cases h1:dT P c o st with
   | none=>simp[h1] at he
   | some e=>rw[XC P h h1];rw[h1] at he;exact he
  ·rename_i b hg hb;rw[if_neg hb];exact he
 ·cases he
theorem AB (h:wA c c') (hi:Zz i i') {ops:Array Oper} {o:Oper} {st s:St} (he:gT P bi c i ops o st=some s):gT P bi c' i' ops o st=some s:=by
 unfold gT at he ⊢
 cases hg:(if bi=true then Fw o else none) with
 | none =>
   simp only[hg] at he ⊢;exact I5 P h he
 | some ga =>
   obtain⟨g,args⟩:=ga
   simp only[hg] at he ⊢;cases hgv:gv ops st o.guard with
   | none=>simp[hgv] at he
   | some t =>
     simp only[hgv] at he ⊢;cases t with
     | false=>exact he
     | true =>
       simp only[if_true] at he ⊢;cases h1:i g (args.map st.ev) st with
       | none=>simp[h1] at he
       | some r=>rw[hi _ _ _ _ h1];rw[h1] at he;exact he
theorem Bw (h:wA c c') (hi:Zz i i') {ops:Array Oper}:∀(l:List Oper) {st s:St},mH P bi c i ops l st=some s→mH P bi c' i' ops l st=some s
 | [],st,s,he=>he
 | o :: l,st,s,he=>by
   simp only[mH] at *
   obtain⟨s1,h1,h2⟩:=fU.1 he
   exact fU.2 ⟨s1,AB P h hi h1,Bw h hi l h2⟩
theorem oX (h:wA c c') (hi:Zz i i'):∀(n m:Nat),n≤m→∀(x:Code) (st:St) (r:Ex × St),uZ P bi c i n x st=some r→uZ P bi c' i' m x st=some r
 | 0,_,_,_,_,_,he=>by simp[uZ] at he
 | n+1,0,hle,_,_,_,_=>by omega
 | n+1,m+1,hle,x,st,r,he=>by
   have ih:=oX h hi n m (by omega)
   cases x<;>simp only[uZ] at he ⊢<;>(try exact he)
   case region id ops draw =>
    obtain⟨s1,h1,h2⟩:=fU.1 he
    exact fU.2 ⟨s1,Bw P h hi _ h1,h2⟩
   case seq a b =>
    obtain⟨⟨e1,s1⟩,h1,h2⟩:=fU.1 he
    refine fU.2 ⟨(e1,s1),ih _ _ _ h1, ?_⟩
    cases e1 with
    | normal=>exact ih _ _ _ h2
    | _=>exact h2
   case cond cc a b =>
    split at he
    ·split at he
     ·rename_i hb;rw[if_pos hb];exact ih _ _ _ he
     ·rename_i hb;rw[if_neg hb];exact ih _ _ _ he
    ·cases he
   case block id b =>
    obtain⟨r1,h1,h2⟩:=fU.1 he
    exact fU.2 ⟨r1,ih _ _ _ h1,h2⟩
   case loop b =>
    obtain⟨⟨e1,s1⟩,h1,h2⟩:=fU.1 he
    refine fU.2 ⟨(e1,s1),ih _ _ _ h1, ?_⟩
    cases e1 with
    | normal=>exact ih _ _ _ h2
    | _=>exact h2
theorem Sm:∀n,wA (Nc P n) (Nc P (n+1))∧Zz (Wu P n) (Wu P (n+1))
 | 0=>⟨fun g xs r h=>by
   rw[Wv] at h;rw[zC,h],fun g xs st r h=>by cases h⟩
 | n+1=>by
   obtain⟨ih,ii⟩:=Sm n
   refine⟨fun g xs r h=>?_,fun g xs st r h=>?_⟩
   ·rw[zC] at h ⊢;cases he:Ext.ext g xs with
    | some r'=>rw[he] at h;exact h
    | none =>
      simp only[he] at h;simp only
      cases hq:uB xs with
      | some u =>
        simp only[hq] at h;simp only
        unfold runM at h ⊢
        split at h
        ·split at h
         ·rename_i oZ;rw[if_pos oZ];split at h
          ·obtain⟨r1,h1,h2⟩:=fU.1 h
           exact fU.2 ⟨r1,oX P ih ii n (n+1) (by omega) _ _ _ h1,h2⟩
          ·cases h
         ·cases h
        ·cases h
      | none =>
        simp only[hq] at h;simp only
        by_cases hu:xs.any uA=true
        ·rw[if_pos hu] at h;cases h
        ·rw[if_neg hu] at h ⊢;unfold C0 at h ⊢
         split at h
         ·split at h
          ·rename_i oZ;rw[if_pos oZ];split at h
           ·obtain⟨r1,h1,h2⟩:=fU.1 h
            exact fU.2 ⟨r1,oX P ih ii n (n+1) (by omega) _ _ _ h1,h2⟩
           ·cases h
          ·cases h
         ·cases h
   ·rw[Nm] at h ⊢;unfold C1 at h ⊢
    split at h
    ·split at h
     ·rename_i oZ;rw[if_pos oZ];split at h
      ·obtain⟨r1,h1,h2⟩:=fU.1 h
       exact fU.2 ⟨r1,oX P ih ii n (n+1) (by omega) _ _ _ h1,h2⟩
      ·cases h
     ·cases h
    ·cases h
theorem AD (n:Nat):wA (Nc P n) (Nc P (n+1)):=(Sm P n).1
theorem AE (n:Nat):Zz (Wu P n) (Wu P (n+1)):=(Sm P n).2
theorem Cp {n m:Nat} (h:n≤m):wA (Nc P n) (Nc P m):=fun g xs r hr =>
 Wm (g:=fun n=>Nc P n g xs) (fun n r=>AD P n g xs r) h hr
theorem Cq {n m:Nat} (h:n≤m):Zz (Wu P n) (Wu P m):=fun g xs st r hr =>
 Wm (g:=fun n=>Wu P n g xs st) (fun n r=>AE P n g xs st r) h hr
noncomputable def aB (f:Nat) (xs:List AV):Option AV:=lK fun n=>Nc P n f xs
noncomputable def pT (f:Nat) (xs:List AV) (st:St):Option (AV × St):=lK fun n=>Wu P n f xs st
noncomputable def wX (bi:Bool) (x:Code) (st:St):Option (Ex × St):=lK fun n=>uZ P bi (Nc P n) (Wu P n) n x st
theorem zA {f:Nat} {xs:List AV} {r:AV}:aB P f xs=some r↔∃n,Nc P n f xs=some r:=JJ (fun n r=>AD P n f xs r) r
theorem AF {f:Nat} {xs:List AV} {st:St} {r:AV × St}:pT P f xs st=some r↔∃n,Wu P n f xs st=some r:=JJ (fun n r=>AE P n f xs st r) r
theorem gQ {x:Code} {st:St} {r:Ex × St}:wX P bi x st=some r↔∃n m,uZ P bi (Nc P n) (Wu P n) m x st=some r:=by
 unfold wX;rw[JJ (fun n r=>oX P (AD P n) (AE P n) n (n+1) (by omega) x st r)]
 constructor
 ·rintro⟨n,h⟩;exact⟨n,n,h⟩
 ·rintro⟨n,m,h⟩
  exact⟨max n m,oX P (Cp P (Nat.le_max_left n m)) (Cq P (Nat.le_max_left n m)) m _ (Nat.le_max_right n m) x st r h⟩
theorem WC (hm:P.follows .mixedOrders=true) (hx:Tz P) {f:Nat} {xs:List AV} {r:AV} (h:aB P f xs=some r):Ia P f xs r:=by
 obtain⟨n,hn⟩:=(zA P).1 h
 exact (aHP hm hx n f xs r hn).2
theorem aDC (n:Nat):Zz (Wu P n) (pT P):=fun g xs st r h=>(AF P).2 ⟨n,h⟩
theorem aAE (n:Nat):wA (Nc P n) (aB P):=fun g xs r h=>(zA P).2 ⟨n,h⟩
theorem JM {β:Type} {g:Nat} {xs:List AV} {f:AV→Option β} {r:β} (h:cT (aB P g xs) f=some r):∃n,cT (Nc P n g xs) f=some r:=by
 obtain⟨a,h1,h2⟩:=fU.1 h
 obtain⟨n,hn⟩:=(zA P).1 h1
 exact⟨n,fU.2 ⟨a,hn,h2⟩⟩
theorem Fp {g:Nat} {args:List AV} {st:St} {dst:Option Nat} {e:rX} (h:aM (aB P) g args st dst=some e):∃n,aM (Nc P n) g args st dst=some e:=by
 unfold aM at h ⊢
 split at h
 ·rename_i hf;obtain⟨n,hn⟩:=JM P h
  exact⟨n,by rw[if_pos hf];exact hn⟩
 ·rename_i hf;split at h
  ·rename_i xs IS;obtain⟨n,hn⟩:=JM P h
   exact⟨n,by rw[if_neg hf];exact hn⟩
  ·cases h
theorem XD {g:Nat} {args:List AV} {st:St} {dst:Option Nat} {e:rX} (h:lQ (aB P) g args st dst=some e):∃n,lQ (Nc P n) g args st dst=some e:=by
 unfold lQ at h ⊢
 split at h
 ·rename_i s k rest;split at h
  ·rename_i e0 sz n cs hh;split at h
   ·rename_i hc;simp only[hh,if_pos hc];cases hr:aB P g (.uniq e0 sz n cs :: rest) with
    | none=>simp[hr] at h
    | some r =>
      obtain⟨m,hm⟩:=(zA P).1 hr
      exact⟨m,by rw[hm];rw[hr] at h;exact h⟩
   ·cases h
  ·cases h
 ·split at h
  ·rename_i hc;simp only[if_pos hc];exact Fp P h
  ·cases h
theorem PZ {g:Nat} {args:List AV} {st:St} {dst:Option Nat} {e:rX} (h:fG (aB P) g args st dst=some e):∃n,fG (Nc P n) g args st dst=some e:=by
 unfold fG at h ⊢
 split at h
 ·rename_i s k hk;split at h
  ·rename_i oZ;simp only[if_pos oZ];split at h
   ·rename_i xs IS;exact JM P h
   ·cases h
  ·cases h
 ·rename_i hk;obtain⟨n,hn⟩:=Fp P h
  exact⟨n,hn⟩
theorem I6 {o:Oper} {st:St} {e:rX} (h:dT P (aB P) o st=some e):∃n,dT P (Nc P n) o st=some e:=by
 obtain⟨dst,op,type,pos,after,guard⟩:=o
 cases op
 case call cl =>
  simp only[dT] at *
  unfold iT at *
  split at h
  ·unfold oD at h ⊢
   split at h
   ·split at h
    ·rename_i hm;obtain⟨n,hn⟩:=XD P h
     exact⟨n,by simp only[hm,if_true];exact hn⟩
    ·rename_i hm;split at h
     ·rename_i hm2;obtain⟨n,hn⟩:=PZ P h
      exact⟨n,by rw[if_neg hm,if_pos hm2];exact hn⟩
     ·rename_i hm2;obtain⟨n,hn⟩:=Fp P h
      exact⟨n,by rw[if_neg hm,if_neg hm2];exact hn⟩
   ·split at h
    ·exact Fp P h
    ·cases h
  all_goals exact⟨0,h⟩
 case makeMap T r=>cases r<;>exact⟨0,h⟩
 all_goals exact⟨0,h⟩
theorem aAF {ops:Array Oper} {o:Oper} {st s:St} (h:cI P (aB P) ops o st=some s):∃n,cI P (Nc P n) ops o st=some s:=by
 unfold cI at *
 split at h
 ·split at h
  ·rename_i b hg hb;cases h1:dT P (aB P) o st with
   | none=>simp[h1] at h
   | some e =>
     obtain⟨n,hn⟩:=I6 P h1
     refine⟨n, ?_⟩
     rw[if_pos hb,hn];rw[h1] at h;exact h
  ·rename_i b hg hb;exact⟨0,by rw[if_neg hb];exact h⟩
 ·cases h
theorem I7 {ops:Array Oper} {o:Oper} {st s:St} (h:gT P bi (aB P) (pT P) ops o st=some s):∃n,gT P bi (Nc P n) (Wu P n) ops o st=some s:=by
 unfold gT at h ⊢
 cases hg:(if bi=true then Fw o else none) with
 | none =>
   simp only[hg] at h ⊢;exact aAF P h
 | some ga =>
   obtain⟨g,args⟩:=ga
   simp only[hg] at h ⊢;cases hgv:gv ops st o.guard with
   | none=>simp[hgv] at h
   | some t =>
     simp only[hgv] at h ⊢;cases t with
     | false=>exact⟨0,h⟩
     | true =>
       simp only[if_true] at h ⊢;cases h1:pT P g (args.map st.ev) st with
       | none=>simp[h1] at h
       | some r =>
         obtain⟨n,hn⟩:=(AF P).1 h1
         refine⟨n, ?_⟩
         rw[h1] at h;rw[hn];exact h
theorem AG {ops:Array Oper}:∀(l:List Oper) {st s:St},mH P bi (aB P) (pT P) ops l st=some s→∃n,mH P bi (Nc P n) (Wu P n) ops l st=some s
 | [],st,s,h=>⟨0,h⟩
 | o :: l,st,s,h=>by
   simp only[mH] at *
   obtain⟨s1,h1,h2⟩:=fU.1 h
   obtain⟨n,hn⟩:=I7 P h1
   obtain⟨m,hm⟩:=AG l h2
   exact⟨max n m,fU.2 ⟨s1,AB P (Cp P (Nat.le_max_left n m)) (Cq P (Nat.le_max_left n m)) hn,Bw P (Cp P (Nat.le_max_right n m)) (Cq P (Nat.le_max_right n m)) l hm⟩⟩
theorem Pu {cc:Nat→List AV→Option AV} {ii:Nat→List AV→St→Option (AV × St)} {ops:Array Oper}:∀(l:List Oper) (st:St),mH P false cc ii ops l st=Ni P cc ops l st
 | [],st=>rfl
 | o :: l,st=>by
   have e:∀s,gT P false cc ii ops o s=cI P cc ops o s:=fun s=>rfl
   unfold mH Ni;rw[e];congr 1
   funext s
   exact Pu l s
theorem QA (st:St):wX P bi .skip st=some (.normal,st):=(gQ P).2 ⟨0,1,rfl⟩
theorem QB (id:Nat) (st:St):wX P bi (.exit id) st=some (.exit id,st):=(gQ P).2 ⟨0,1,rfl⟩
theorem A2 (st:St):wX P bi .ret st=some (.ret,st):=(gQ P).2 ⟨0,1,rfl⟩
theorem AH (id:Nat) (ops:Array Oper) (d:Bool) (st:St):wX P bi (.region id ops d) st=cT (mH P bi (aB P) (pT P) ops ops.toList st) fun s=>if bi=true∧¬qJ ops s (Ext.dyn id ops.size (sI ops)) then none else some (.normal,s):=by
 apply Option.ext
 intro r;rw[gQ,fU];constructor
 ·rintro⟨n,m,h⟩
  cases m with
  | zero=>simp[uZ] at h
  | succ m =>
    simp only[uZ] at h;obtain⟨s1,h1,h2⟩:=fU.1 h
    exact⟨s1,Bw P (aAE P n) (aDC P n) _ h1,h2⟩
 ·rintro⟨s1,h1,h2⟩
  obtain⟨n,hn⟩:=AG P _ h1
  exact⟨n,1,by simp only[uZ];exact fU.2 ⟨s1,hn,h2⟩⟩
def AI (r:Ex × St) (k:St→Option (Ex × St)):Option (Ex × St) :=
 match r.1 with
 | .normal=>k r.2
 | e=>some (e,r.2)
theorem HV (a b:Code) (st:St):wX P bi (.seq a b) st=cT (wX P bi a st) fun r=>AI r (wX P bi b):=by
 apply Option.ext
 intro r;rw[gQ,fU];constructor
 ·rintro⟨n,m,h⟩
  cases m with
  | zero=>simp[uZ] at h
  | succ m =>
    simp only[uZ] at h;obtain⟨⟨e1,s1⟩,h1,h2⟩:=fU.1 h
    refine⟨(e1,s1),(gQ P).2 ⟨n,m,h1⟩, ?_⟩
    cases e1 with
    | normal=>exact (gQ P).2 ⟨n,m,h2⟩
    | _=>exact h2
 ·rintro⟨⟨e1,s1⟩,h1,h2⟩
  obtain⟨n1,m1,h1⟩:=(gQ P).1 h1
  cases e1 with
  | normal =>
    obtain⟨n2,m2,h2⟩:=(gQ P).1 h2
    refine⟨max n1 n2,max m1 m2+1, ?_⟩
    simp only[uZ];exact fU.2 ⟨(.normal,s1),oX P (Cp P (Nat.le_max_left _ _)) (Cq P (Nat.le_max_left _ _)) _ _ (Nat.le_max_left _ _) _ _ _ h1,oX P (Cp P (Nat.le_max_right _ _)) (Cq P (Nat.le_max_right _ _)) _ _ (Nat.le_max_right _ _) _ _ _ h2⟩
  | exit id=>exact⟨n1,m1+1,by simp only[uZ];exact fU.2 ⟨(.exit id,s1),h1,h2⟩⟩
  | ret=>exact⟨n1,m1+1,by simp only[uZ];exact fU.2 ⟨(.ret,s1),h1,h2⟩⟩
theorem QC (b:Code) (st:St):wX P bi (.loop b) st=cT (wX P bi b st) fun r=>AI r (wX P bi (.loop b)):=by
 apply Option.ext
 intro r;rw[gQ,fU];constructor
 ·rintro⟨n,m,h⟩
  cases m with
  | zero=>simp[uZ] at h
  | succ m =>
    simp only[uZ] at h;obtain⟨⟨e1,s1⟩,h1,h2⟩:=fU.1 h
    refine⟨(e1,s1),(gQ P).2 ⟨n,m,h1⟩, ?_⟩
    cases e1 with
    | normal=>exact (gQ P).2 ⟨n,m,h2⟩
    | _=>exact h2
 ·rintro⟨⟨e1,s1⟩,h1,h2⟩
  obtain⟨n1,m1,h1⟩:=(gQ P).1 h1
  cases e1 with
  | normal =>
    obtain⟨n2,m2,h2⟩:=(gQ P).1 h2
    refine⟨max n1 n2,max m1 m2+1, ?_⟩
    simp only[uZ];exact fU.2 ⟨(.normal,s1),oX P (Cp P (Nat.le_max_left _ _)) (Cq P (Nat.le_max_left _ _)) _ _ (Nat.le_max_left _ _) _ _ _ h1,oX P (Cp P (Nat.le_max_right _ _)) (Cq P (Nat.le_max_right _ _)) _ _ (Nat.le_max_right _ _) _ _ _ h2⟩
  | exit id=>exact⟨n1,m1+1,by simp only[uZ];exact fU.2 ⟨(.exit id,s1),h1,h2⟩⟩
  | ret=>exact⟨n1,m1+1,by simp only[uZ];exact fU.2 ⟨(.ret,s1),h1,h2⟩⟩
theorem GS (id:Nat) (b:Code) (st:St):wX P bi (.block id b) st=cT (wX P bi b st) fun r=>some (r.1.inBlock id,r.2):=by
 apply Option.ext
 intro r;rw[gQ,fU];constructor
 ·rintro⟨n,m,h⟩
  cases m with
  | zero=>simp[uZ] at h
  | succ m =>
    simp only[uZ] at h;obtain⟨r1,h1,h2⟩:=fU.1 h
    exact⟨r1,(gQ P).2 ⟨n,m,h1⟩,h2⟩
 ·rintro⟨r1,h1,h2⟩
  obtain⟨n1,m1,h1⟩:=(gQ P).1 h1
  exact⟨n1,m1+1,by simp only[uZ];exact fU.2 ⟨r1,h1,h2⟩⟩
theorem QD (c:Operand) (a b:Code) (st:St) {t:Bool} (hc:st.ev c=.v (.bool t)):wX P bi (.cond c a b) st=if t=true then wX P bi a st else wX P bi b st:=by
 apply Option.ext
 intro r;rw[gQ];constructor
 ·rintro⟨n,m,h⟩
  cases m with
  | zero=>simp[uZ] at h
  | succ m =>
    simp only[uZ,hc] at h;split at h
    ·rename_i hb;rw[if_pos hb];exact (gQ P).2 ⟨n,m,h⟩
    ·rename_i hb;rw[if_neg hb];exact (gQ P).2 ⟨n,m,h⟩
 ·intro h;split at h
  ·rename_i hb;obtain⟨n,m,h⟩:=(gQ P).1 h
   exact⟨n,m+1,by simp only[uZ,hc];rw[if_pos hb];exact h⟩
  ·rename_i hb;obtain⟨n,m,h⟩:=(gQ P).1 h
   exact⟨n,m+1,by simp only[uZ,hc];rw[if_neg hb];exact h⟩
noncomputable def zJ (x:Code) (st:St):Option (Ex × St):=wX P false x st
theorem A3 {x:Code} {st:St} {r:Ex × St}:zJ P x st=some r↔∃n m,uZ P false (Nc P n) (Wu P n) m x st=some r:=gQ P
theorem aAG (st:St):zJ P .skip st=some (.normal,st):=QA P st
theorem aAH (id:Nat) (st:St):zJ P (.exit id) st=some (.exit id,st):=QB P id st
theorem aDD (st:St):zJ P .ret st=some (.ret,st):=A2 P st
theorem XE (id:Nat) (ops:Array Oper) (d:Bool) (st:St):zJ P (.region id ops d) st=cT (Ni P (aB P) ops ops.toList st) fun s=>some (.normal,s):=by
 rw[← Pu P (ii:=pT P)];have h:=AH P (bi:=false) id ops d st
 simp only[Bool.false_eq_true,false_and,if_false] at h;exact h
theorem aDE (a b:Code) (st:St):zJ P (.seq a b) st=cT (zJ P a st) fun r=>AI r (zJ P b):=HV P a b st
theorem He (b:Code) (st:St):zJ P (.loop b) st=cT (zJ P b st) fun r=>AI r (zJ P (.loop b)):=QC P b st
theorem I8 (id:Nat) (b:Code) (st:St):zJ P (.block id b) st=cT (zJ P b st) fun r=>some (r.1.inBlock id,r.2):=GS P id b st
theorem aAI (c:Operand) (a b:Code) (st:St) {t:Bool} (hc:st.ev c=.v (.bool t)):zJ P (.cond c a b) st=if t=true then zJ P a st else zJ P b st:=QD P c a b st hc
noncomputable def At (f:Nat) (fn:Func) (r:Ex × St):Option AV :=
 match r.1 with
 | .exit _=>none
 | _=>jS P f fn r.2
def bI (fn:Func):Bool:=sX fn && (match fn.body with|some c=>!oE c|none=>true)
theorem Kz {xs:List AV} (h:xs.any uA=false):uB xs=none:=by
 cases xs with
 | nil=>rfl
 | cons x xs =>
   cases x<;>first|rfl|simp[uA] at h
noncomputable def V0 (fn:Func) (r:Ex × St):Option AV :=
 match r.1 with
 | .exit _=>none
 | _=>Jj P fn r.2
theorem NP {f:Nat} {fn:Func} {c:Code} (hf:P.funcs[f]? = some fn) (hb:fn.body=some c) (oZ:sX fn=true) (e sz m:Nat) (cs xs:List AV) (hx:Ext.ext f (.uniq e sz m cs :: xs)=none) :
 aB P f (.uniq e sz m cs :: xs)=cT (wX P (oE c) c (St.tJ e sz m cs xs)) (V0 P fn):=by
 apply Option.ext
 intro r;rw[zA,fU];have hq:uB (.uniq e sz m cs :: xs)=some (e,sz,m,cs,xs):=rfl
 constructor
 ·rintro⟨n,h⟩
  cases n with
  | zero=>rw[Wv,hx] at h;cases h
  | succ n =>
    simp only[zC,hx,hq,runM,hf,oZ,hb,if_true] at h;obtain⟨r1,h1,h2⟩:=fU.1 h
    exact⟨r1,(gQ P).2 ⟨n,n,h1⟩,h2⟩
 ·rintro⟨r1,h1,h2⟩
  obtain⟨n,m',h1⟩:=(gQ P).1 h1
  refine⟨max n m'+1, ?_⟩
  simp only[zC,hx,hq,runM,hf,oZ,hb,if_true];exact fU.2 ⟨r1,oX P (Cp P (Nat.le_max_left _ _)) (Cq P (Nat.le_max_left _ _)) _ _ (Nat.le_max_right _ _) _ _ _ h1,h2⟩
theorem QE {f:Nat} {fn:Func} {c:Code} (hf:P.funcs[f]? = some fn) (hb:fn.body=some c) (oZ:sX fn=true) (xs:List AV) (hx:Ext.ext f xs=none) (hu:xs.any uA=false):aB P f xs=cT (wX P (oE c) c (St.init xs)) (At P f fn):=by
 apply Option.ext
 intro r;rw[zA,fU];constructor
 ·rintro⟨n,h⟩
  cases n with
  | zero=>rw[Wv,hx] at h;cases h
  | succ n =>
    simp only[zC,hx,Kz hu,hu,C0,hf,oZ,hb,if_true] at h;obtain⟨r1,h1,h2⟩:=fU.1 h
    exact⟨r1,(gQ P).2 ⟨n,n,h1⟩,h2⟩
 ·rintro⟨r1,h1,h2⟩
  obtain⟨n,m,h1⟩:=(gQ P).1 h1
  refine⟨max n m+1, ?_⟩
  simp only[zC,hx,Kz hu,hu,C0,hf,oZ,hb,if_true];exact fU.2 ⟨r1,oX P (Cp P (Nat.le_max_left _ _)) (Cq P (Nat.le_max_left _ _)) _ _ (Nat.le_max_right _ _) _ _ _ h1,h2⟩
theorem aAJ {f:Nat} {fn:Func} {c:Code} (hf:P.funcs[f]? = some fn) (hb:fn.body=some c) (oZ:bI fn=true) (xs:List AV) (hx:Ext.ext f xs=none) (hu:xs.any uA=false):aB P f xs=cT (zJ P c (St.init xs)) (At P f fn):=by
 simp only[bI,hb,Bool.and_eq_true,Bool.not_eq_true'] at oZ;rw[QE P hf hb oZ.1 xs hx hu,oZ.2];rfl
noncomputable def aHQ (fn:Func) (r:Ex × St):Option (AV × St) :=
 match r.1 with
 | .exit _=>none
 | _=>(Bc P fn r.2).map fun x=>(x,r.2)
theorem Bq {f:Nat} {fn:Func} {c:Code} (hf:P.funcs[f]? = some fn) (hb:fn.body=some c) (oZ:EP true fn=true) (xs:List AV) (st:St):pT P f xs st=cT (wX P true c ((St.init xs).back st)) (aHQ P fn):=by
 apply Option.ext
 intro r;rw[AF,fU];constructor
 ·rintro⟨n,h⟩
  cases n with
  | zero=>rw[P6] at h;cases h
  | succ n =>
    simp only[Nm,C1,hf,oZ,hb,if_true] at h;obtain⟨r1,h1,h2⟩:=fU.1 h
    exact⟨r1,(gQ P).2 ⟨n,n,h1⟩,h2⟩
 ·rintro⟨r1,h1,h2⟩
  obtain⟨n,m,h1⟩:=(gQ P).1 h1
  refine⟨max n m+1, ?_⟩
  simp only[Nm,C1,hf,oZ,hb,if_true];exact fU.2 ⟨r1,oX P (Cp P (Nat.le_max_left _ _)) (Cq P (Nat.le_max_left _ _)) _ _ (Nat.le_max_right _ _) _ _ _ h1,h2⟩
end
end Go.Ab
end
