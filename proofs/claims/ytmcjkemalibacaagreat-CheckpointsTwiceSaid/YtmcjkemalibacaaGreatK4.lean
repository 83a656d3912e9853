/-
  Part 4 of the proof: an evaluator of programs, its soundness, and what functions of this program compute.
-/
import Derived.Test.YtmcjkemalibacaaGreatK3
set_option linter.all false
set_option maxRecDepth 20000
set_option maxHeartbeats 40000000
section
namespace Go.Ab
open Classical
variable [Ext]
def BE (ops:Array Oper) (acc:Array Nat):Prop :=
 ∀j o,j<acc.size→ops[j]? = some o→∀k,(acc.getD j 0).testBit k=true→∃e∈o.after,Region.binds .any e=true∧(e.on=k∨(acc.getD e.on 0).testBit k=true)
theorem IC (acc:Array Nat) (k:Nat):∀(l:List Edge) (s:Nat),(l.foldl (fun s e=>if Region.binds .any e=true then s ||| 2 ^ e.on ||| acc.getD e.on 0 else s) s).testBit k=true →
 s.testBit k=true∨∃e∈l,Region.binds .any e=true∧(e.on=k∨(acc.getD e.on 0).testBit k=true)
 | [],s,h=>.inl h
 | e :: l,s,h=>by
   simp only[List.foldl_cons] at h;rcases IC acc k l _ h with h|⟨e',Be,h⟩
   ·split at h
    ·rename_i hb;simp only[Nat.testBit_or,Bool.or_eq_true] at h;rcases h with (h|h)|h
     ·exact .inl h
     ·rw[Nat.testBit_two_pow] at h;exact .inr ⟨e,by simp,hb,.inl (by simpa using h)⟩
     ·exact .inr ⟨e,by simp,hb,.inr h⟩
    ·exact .inl h
   ·exact .inr ⟨e',by simp[Be],h⟩
theorem ID {α:Type} (n:Nat) (k:Nat→α):forced n k=k n:=by cases n<;>rfl
theorem BF (ops:Array Oper):∀(l:List Oper) (acc:Array Nat),(∀i o,l[i]? = some o→ops[acc.size+i]? = some o)→BE ops acc→BE ops (GD l acc)
 | [],acc,_,h=>h
 | o :: l,acc,hl,h=>by
   unfold GD;rw[ID];refine BF ops l _ (fun i o' ho'=>?_) ?_
   ·have:=hl (i+1) o' (by simpa using ho')
    simp only[Array.size_push];rw[← this];congr 1
    omega
   ·intro j oj hj hoj k hk;have qL:∀x,(acc.getD x 0).testBit k=true→((acc.push (VE acc o)).getD x 0).testBit k=true:=fun x hx=>by
     have bA:x<acc.size:=by
      rcases Nat.lt_or_ge x acc.size with h'|h'
      ·exact h'
      ·simp[Array.getElem?_eq_none h'] at hx
     simp only[Array.getD_eq_getD_getElem?,Array.getElem?_push_lt bA] at hx ⊢;simpa [bA] using hx
    rcases Nat.lt_or_ge j acc.size with bA|hge
    ·have AO:(acc.getD j 0).testBit k=true:=by
      simp only[Array.getD_eq_getD_getElem?,Array.getElem?_push_lt bA] at hk ⊢;simpa [bA] using hk
     obtain⟨e,he,hb,hor⟩:=h j oj bA hoj k AO
     exact⟨e,he,hb,hor.imp id (qL _)⟩
    ·have hje:j=acc.size:=by simp only[Array.size_push] at hj;omega
     subst hje;have ho:=hl 0 o (by simp)
     rw[Nat.add_zero,hoj] at ho;cases ho
     have AO:(VE acc o).testBit k=true:=by simpa using hk
     rcases IC acc k _ 0 AO with h0|⟨e,he,hb,hor⟩
     ·simp at h0
     ·exact⟨e,by simpa using he,hb,hor.imp id (qL _)⟩
theorem Rj {ops:Array Oper} {dy:List (Nat × Nat)} {b:Array Nat} {j:Nat} {oj:Oper}:∀(l:List Oper) (i0:Nat),Pk ops dy b j oj l i0=true→∀i oi,l[i]? = some oi→i0+i<j→(b.getD j 0).testBit (i0+i)=true∨(l8 oi=true∧l8 oj=true∧(sQ ops oi oj=true∨((i0+i,j)∈dy∧IP ops b (i0+i) oi j oj=true)))
 | [],_,_,i,oi,h,_=>by simp at h
 | o :: l,i0,h,i,oi,ho,bA=>by
   unfold Pk at h;simp only[Bool.and_eq_true,Bool.or_eq_true,decide_eq_true_eq] at h;cases i with
   | zero =>
     simp at ho
     subst ho;rcases h.1 with (h|h)|⟨⟨n1,n2⟩,h⟩
     ·omega
     ·exact .inl (by simpa using h)
     ·exact .inr ⟨n1,n2,h.imp id fun h=>⟨by simpa using h.1,by simpa using h.2⟩⟩
   | succ i =>
     have:=Rj l (i0+1) h.2 i oi (by simpa using ho) (by omega)
     rw[show i0+(i+1)=i0+1+i by omega]
     exact this
theorem Jl {ops:Array Oper} {dy:List (Nat × Nat)} {b:Array Nat}:∀(l:List Oper) (j0:Nat),IQ ops dy b l j0=true→∀j oj,l[j]? = some oj →
 (∀e∈oj.after,Region.binds .any e=true→e.on<j0+j)∧Pk ops dy b (j0+j) oj ops.toList 0=true
 | [],_,_,j,oj,h=>by simp at h
 | o :: l,j0,h,j,oj,ho=>by
   unfold IQ at h;simp only[Bool.and_eq_true] at h;obtain⟨⟨h1,h2⟩,h3⟩:=h
   cases j with
   | zero =>
     simp at ho
     subst ho;refine⟨fun e he hb=>?_,by simpa using h2⟩
     have:=List.all_eq_true.1 h1 e (by simpa using he)
     simpa [hb] using this
   | succ j =>
     have:=Jl l (j0+1) h3 j oj (by simpa using ho)
     rw[show j0+(j+1)=j0+1+j by omega]
     exact this
structure Em (ops:Array Oper) (dy:List (Nat × Nat)) (b:Array Nat):Prop where
 aDp:BE ops b
 size:b.size=ops.size
 lt:∀j oj,ops[j]? = some oj→∀e∈oj.after,Region.binds .any e=true→e.on<j
 apart:∀i j oi oj,i<j→ops[i]? = some oi→ops[j]? = some oj→(b.getD j 0).testBit i=true∨(l8 oi=true∧l8 oj=true∧(sQ ops oi oj=true∨((i,j)∈dy∧IP ops b i oi j oj=true)))
theorem BG:∀(l:List Oper) (acc:Array Nat),(GD l acc).size=acc.size+l.length
 | [],acc=>rfl
 | o :: l,acc=>by
   unfold GD;rw[ID,BG l];simp
   omega
theorem RC {ops:Array Oper} {dy:List (Nat × Nat)} (h:Yl ops dy=true):∃b,Em ops dy b:=by
 unfold Yl at h;refine⟨_,BF ops ops.toList #[] (fun i o ho=>by simpa using ho) (fun j o hj=>by simp at hj),by rw[BG];simp,fun j oj hoj=>?_,fun i j oi oj hij hoi hoj=>?_⟩
 ·have:=(Jl _ 0 h j oj (by simpa using hoj)).1
  simpa using this
 ·have:=(Jl _ 0 h j oj (by simpa using hoj)).2
  simp only[Nat.zero_add] at this;have:=Rj _ 0 this i oi (by simpa using hoi) (by omega)
  simpa using this
section
variable {P:Program} {call:Nat→List AV→Option AV} {ops:Array Oper} {nt:Nat} {Q:Exit→Act→World→Prop}
theorem RE {h0:Nat→Obj→Prop} {w0:World} {F:Gw} {ρ:Nat→Nat→Value} {st:St} {a:Act} {w:World} (S:kY F h0 w0 nt ρ st a w) {o:Oper} {b:Bool} (h:gv ops st o.guard=some b):Region.wanted o (yielded ops a.tmps)=b:=by
 unfold gv at h;unfold Region.wanted;cases hg:o.guard with
 | none=>simp[hg] at h;subst h;rfl
 | some jw =>
   obtain⟨j,want⟩:=jw
   simp only[hg] at h;simp only
   cases hd:(ops[j]?).bind (·.dst) with
   | none =>
     simp[hd] at h
     subst h;simp[yielded,hd]
   | some d =>
     simp only[hd] at h;split at h
     ·rename_i x hx;have hr:=S.env d
      rw[hx] at hr;have hv:=iK hr
      rcases Nat.lt_or_ge d a.tmps.size with bA|hge
      ·have hv':a.tmps[d]? = some x:=by
        simp[bA] at hv ⊢
        exact hv
       simp only[yielded,hd,Option.bind_some,hv'];split at h
       ·simp only[Option.some.injEq] at h;rw[← h];simp
       ·simp only[Option.some.injEq] at h;subst h;rename_i fQ;cases x<;>first|rfl|exact absurd rfl (fQ _)
      ·have hn:a.tmps[d]? = none:=Array.getElem?_eq_none hge
       have hu:x=undef:=by simpa [hn] using hv.symm
       subst hu;simp[undef] at h
       subst h;simp[yielded,hd,hn]
     ·cases h
theorem YE {h0:Nat→Obj→Prop} {w0:World} {F:Gw} {ρ:Nat→Nat→Value} {st st':St} {a:Act} {w:World} {K:Act→World→Prop} (S:kY F h0 w0 nt ρ st a w) (kK:rA P call) {i:Nat} {o:Oper}
 (hi:ops[i]? = some o) (hd:∀d,o.dst=some d→d<nt) (h:cH P call ops o st=some st')
 (hK:∀oC a' w',kY F h0 w0 nt oC st' a' w'→K a' w'):wpOp P ops Q i K a w:=by
 unfold wpOp;simp only[hi];unfold cH at h;cases hg:gv ops st o.guard with
 | none=>simp[hg] at h
 | some b =>
   rw[RE S hg];simp only[hg] at h;cases b with
   | true =>
     simp only[if_true] at h ⊢;cases he:dP P call o st with
     | none=>simp[he] at h
     | some e =>
       simp only[he,Option.map_some,Option.some.injEq] at h;subst h;exact .inl (Vy S kK he hd hK)
   | false =>
     simp only[Bool.false_eq_true,if_false,Option.some.injEq] at h ⊢;subst h;exact hK ρ _ w (S.put o.dst hd (.v _))
theorem KT {o:Oper} {a:Act} {w:World} {K:Act→World→Prop} (h:o.wp P a w K fun _ _ _=>False):∃a' w',K a' w':=by
 unfold Oper.wp at h;generalize (execOp a.eval o).run P w=r at h
 have hlet:¬LetsOut (fun _ _ _=>False):=by rintro⟨_,_,h⟩;exact h
 cases r with
 | ok n w' =>
   cases n<;>simp only[Oper.upon] at h<;>(try exact⟨_,_,h⟩)<;>(try exact h.elim)
   ·obtain⟨e,w2,fr,hR,_⟩:=h []
    cases e with
    | returned v=>exact⟨_,_,hR⟩
    | panicked c=>exact hR.elim
    | outgrown=>exact absurd hR hlet
   ·obtain⟨v,w2,hR,_⟩:=h default []
    exact⟨_,_,hR⟩
 | halt x w'=>cases x<;>simp only[Oper.upon] at h
def Valid (nt:Nat) (st:St):Prop:=∃(F:Gw) (h0:Nat→Obj→Prop) (w0:World) (ρ:Nat→Nat→Value) (a:Act) (w:World),kY F h0 w0 nt ρ st a w
theorem Valid.ids {st:St} (h:Valid nt st):∀t,mP st.aU (st.env t):=by
 obtain⟨F,h0,w0,ρ,a,w,S⟩:=h
 exact fun t=>⟨ctx h0 w0 ρ st w,_,rfl,S.env t⟩
theorem Valid.hp {st:St} (h:Valid nt st):EG st:=by
 obtain⟨F,h0,w0,ρ,a,w,S⟩:=h
 intro s g cs he c hc;obtain⟨_,_,b,arr,T,_,_,_,Ac⟩:=S.sR s g _ he
 obtain⟨i,hi,rfl⟩:=List.getElem_of_mem hc
 have hl:=Ac.len
 exact⟨ctx h0 w0 ρ st w,arr.toList[i]'(by omega),rfl,Ac.rel i _ _ (by simp[hi]) (by simp)⟩
theorem Valid.step {st st':St} (h:Valid nt st) (kK:rA P call) {o:Oper} (hd:∀d,o.dst=some d→d<nt) (he:cH P call ops o st=some st'):Valid nt st':=by
 obtain⟨F,h0,w0,ρ,a,w,S⟩:=h
 unfold cH at he;cases hg:gv ops st o.guard with
 | none=>simp[hg] at he
 | some b =>
   simp only[hg] at he;cases b with
   | true =>
     simp only[if_true] at he;cases hee:dP P call o st with
     | none=>simp[hee] at he
     | some e =>
       simp only[hee,Option.map_some,Option.some.injEq] at he;subst he;obtain⟨a',w',oC,S'⟩:=KT (Vy (Q:=fun _ _ _=>False) (K:=fun a' w'=>∃oC,kY F h0 w0 nt oC (e.apply st) a' w') S kK hee hd (fun oC a' w' h=>⟨oC,h⟩))
       exact⟨F,h0,w0,oC,a',w',S'⟩
   | false =>
     simp only[Bool.false_eq_true,if_false,Option.some.injEq] at he;subst he;exact⟨F,h0,w0,ρ,_,w,S.put o.dst hd (.v _)⟩
theorem vY {b:Array Nat} {i a:Nat} {aS:List Nat} (ha:a∈aS):∀(l:List Oper) (m0:Nat),wX b i aS l m0=true→∀m o,l[m]? = some o→o.dst=some a→(b.getD i 0).testBit (m0+m)=true
 | [],_,_,m,o,h,_=>by simp at h
 | o' :: l,m0,h,m,o,ho,hd=>by
   unfold wX at h;simp only[Bool.and_eq_true,Bool.or_eq_true] at h;cases m with
   | zero =>
     simp at ho
     subst ho;rcases h.1 with h|h
     ·rw[hd] at h;simp[ha] at h
     ·simpa using h
   | succ m =>
     have:=vY ha l (m0+1) h.2 m o (by simpa using ho) hd
     rw[show m0+(m+1)=m0+1+m by omega]
     exact this
theorem qG.mem {s:St}:∀ {l:List (Nat × Nat)},qG ops s l→∀p∈l,Yk ops s p
 | p :: l,h,q,hq=>by
   rcases List.mem_cons.1 hq with rfl|hq
   ·exact h.1
   ·exact h.2.mem q hq
structure Left (ops:Array Oper) (lZ:Array Bool) (l:List Nat):Prop where
 size:lZ.size=ops.size
 mem:∀j,j∈l↔j<ops.size∧lZ.getD j true=false
 sorted:l.Pairwise (· < ·)
 closed:∀j o,ops[j]? = some o→lZ.getD j false=true→∀e∈o.after,Region.binds .any e=true→lZ.getD e.on false=true
theorem Em.aHr {dy:List (Nat × Nat)} {b:Array Nat} (D:Em ops dy b):∀(j:Nat) o,ops[j]? = some o→∀k,(b.getD j 0).testBit k=true→k<j:=by
 intro j;induction j using Nat.strongRecOn with
 | _ j ih =>
   intro o ho k hk;have hj:j<ops.size:=(Array.getElem?_eq_some_iff.1 ho).1
   obtain⟨e,he,hb,hor⟩:=D.aDp j o (by rw[D.size];exact hj) ho k hk
   have bA:=D.lt j o ho e he hb
   rcases hor with rfl|AO
   ·exact bA
   ·have hes:e.on<ops.size:=by omega
    have:=ih e.on bA _ (Array.getElem?_eq_getElem hes) k AO
    omega
theorem IE {lZ:Array Bool} {j:Nat} (hj:j<lZ.size):lZ.getD j true=lZ.getD j false:=by simp[hj]
theorem RF {dy:List (Nat × Nat)} {b:Array Nat} (D:Em ops dy b) {lZ:Array Bool} {l:List Nat} (L:Left ops lZ l):∀(j:Nat) o,ops[j]? = some o→(∀e∈o.after,Region.binds .any e=true→lZ.getD e.on false=true) →
 ∀k,(b.getD j 0).testBit k=true→lZ.getD k false=true:=by
 intro j;induction j using Nat.strongRecOn with
 | _ j ih =>
   intro o ho Nb k hk;have hj:j<ops.size:=(Array.getElem?_eq_some_iff.1 ho).1
   obtain⟨e,he,hb,hor⟩:=D.aDp j o (by rw[D.size];exact hj) ho k hk
   have hle:=Nb e he hb
   rcases hor with rfl|AO
   ·exact hle
   ·have bA:=D.lt j o ho e he hb
    have hes:e.on<ops.size:=by omega
    exact ih e.on bA _ (Array.getElem?_eq_getElem hes) (L.closed e.on _ (Array.getElem?_eq_getElem hes) hle) k AO
end
end Go.Ab
end
section
namespace Go.Ab
open Classical
variable [Ext]
section
variable {P:Program} {call:Nat→List AV→Option AV} {inl:Nat→List AV→St→Option (AV × St)} {bi:Bool} {nt:Nat} {h0:Nat→Obj→Prop} {w0:World} {F:Gw}
theorem EP {ops:Array Oper} {id:Nat} {draw:Bool} (h:codeOk bi nt (.region id ops draw)=true):(∀(j:Nat) o,ops[j]? = some o→∀d,o.dst=some d→d<nt)∧(draw=true→Yl ops (if bi=true then Ext.dyn id ops.size (sI ops) else [])=true):=by
 simp only[codeOk,Bool.and_eq_true,Bool.or_eq_true,Bool.not_eq_true'] at h;refine⟨fun j o ho d hd=>?_,fun hdr=>h.2.resolve_left (by rw[hdr];simp)⟩
 have:=Array.all_eq_true_iff_forall_mem.1 h.1 o (Array.mem_of_getElem? ho)
 simpa [hd] using this
def BH (P:Program) (inl:Nat→List AV→St→Option (AV × St)):Prop :=
 ∀g xs st r s',inl g xs st=some (r,s')→Dd P g ∧
  ∀(F:Gw) (h0:Nat→Obj→Prop) (w0:World) (nt:Nat) (ρ:Nat→Nat→Value) (a:Act) (w:World) (vs:Array Value) (K:Value→World→Prop),kY F h0 w0 nt ρ st a w→lQ (ctx h0 w0 ρ st w) xs vs.toList →
   (∀oC w' v,kY F h0 w0 nt oC (st.back s') a w'→cY (ctx h0 w0 oC (st.back s') w') r v→K v w')→Calls P g vs w fun en w'=>∃v,en=.returned v∧K v w'
theorem YF {o:Oper} {g:Nat} {args:List Operand} (h:Gv o=some (g,args)):∃c,o.op=.call c∧c.callee=.value (.func g)∧c.args.toList=args:=by
 obtain⟨dst,op,type,pos,after,guard⟩:=o
 unfold Gv at h;split at h
 ·rename_i g' args' tR qH
  split at h
  ·simp only[Option.some.injEq,Prod.mk.injEq] at h;obtain⟨rfl,rfl⟩:=h
   exact⟨_,qH,rfl,rfl⟩
  ·cases h
 ·cases h
theorem Wc {ops:Array Oper} {Q:Exit→Act→World→Prop} {ρ:Nat→Nat→Value} {st st':St} {a:Act} {w:World} {K:Act→World→Prop} (S:kY F h0 w0 nt ρ st a w) (kK:rA P call) (Rk:BH P inl) {i:Nat} {o:Oper}
 (hi:ops[i]? = some o) (hd:∀d,o.dst=some d→d<nt) (h:gU P bi call inl ops o st=some st')
 (hK:∀oC a' w',kY F h0 w0 nt oC st' a' w'→K a' w'):wpOp P ops Q i K a w:=by
 unfold gU at h;split at h
 ·rename_i g args hg;have NF:Gv o=some (g,args):=by
   split at hg
   ·exact hg
   ·cases hg
  obtain⟨c,qH,hcal,xR⟩:=YF NF
  unfold wpOp;simp only[hi];cases hgv:gv ops st o.guard with
  | none=>simp[hgv] at h
  | some b =>
    rw[RE S hgv];simp only[hgv] at h;cases b with
    | true =>
      simp only[if_true] at h ⊢;cases he:inl g (args.map st.ev) st with
      | none=>simp[he] at h
      | some r =>
        obtain⟨x,s'⟩:=r
        simp only[he,Option.map_some,Option.some.injEq] at h;subst h;refine .inl ?_
        obtain⟨⟨fn,aHn,aAE,aAF⟩,XV⟩:=Rk g _ st x s' he
        have hnb:fn.body.isNone=false:=by
         cases hb:fn.body<;>simp[hb] at aAF ⊢
        have Su : ¬ fn.name = "runtime.NumGoroutine" := by simpa using aAE
        have hn2:¬fn.body=none:=by intro h;simp[h] at hnb
        have qE:(execOp a.eval o).run P w=.ok (.enter g (c.args.map a.eval)) w:=by
         simp[execOp,qH,resolve,hcal,Act.eval,Deferred.ofValue,invoke,callFunc,aHn,Su,hn2]
        have fU:lQ (ctx h0 w0 ρ st w) (args.map st.ev) (c.args.map a.eval).toList:=by
         rw[← xR];simpa using lQ.map c.args.toList _ _ fun p _=>S.ev p
        unfold Oper.wp;rw[qE,Oper.upon_enter];refine (XV F h0 w0 nt ρ a w (c.args.map a.eval) (fun v w'=>K (a.put o.dst v) w') S fU fun oC w' v S' hv=>?_).mono ?_
        ·exact hK oC _ w' (S'.put o.dst hd hv)
        ·rintro en w' ⟨v,rfl,hk⟩
         exact hk
    | false =>
      simp only[Bool.false_eq_true,if_false,Option.some.injEq] at h ⊢;subst h;exact hK ρ _ w (S.put o.dst hd (.v _))
 ·exact YE S kK hi hd h hK
theorem BI {ops:Array Oper} (kK:rA P call) (Rk:BH P inl) (lH:∀(j:Nat) o,ops[j]? = some o→∀d,o.dst=some d→d<nt) {Q:Exit→Act→World→Prop} {sf:St}
 (hQ:∀oC a' w',kY F h0 w0 nt oC sf a' w'→Q .normal a' w'):∀(l:List Oper) (k:Nat) (st:St) (ρ:Nat→Nat→Value) (a:Act) (w:World),(∀(j:Nat) o,l[j]? = some o→ops[k+j]? = some o)→kY F h0 w0 nt ρ st a w →
  mK P bi call inl ops l st=some sf→wpOps P ops Q (List.range' k l.length) a w
 | [],k,st,ρ,a,w,hl,S,h=>by
   simp only[mK,Option.some.injEq] at h;subst h;exact hQ ρ a w S
 | o :: l,k,st,ρ,a,w,hl,S,h=>by
   rw[List.length_cons,List.range'_succ,wpOps_cons];have hi:ops[k]? = some o:=hl 0 o rfl
   unfold mK at h;cases h1:gU P bi call inl ops o st with
   | none=>simp[h1,cT] at h
   | some s1 =>
     simp only[h1,cT] at h;exact Wc S kK Rk hi (lH k o hi) h1 fun oC a' w' S'=>BI kK Rk lH hQ l (k+1) s1 oC a' w' (fun j o' hj=>by
      have:=hl (j+1) o' (by simpa using hj)
      rw[show k+1+j=k+(j+1) by omega];exact this) S' h
noncomputable def Of (P:Program) (bi:Bool) (call:Nat→List AV→Option AV) (inl:Nat→List AV→St→Option (AV × St)) (ops:Array Oper):List Nat→St→Option St
 | [],st=>some st
 | i :: r,st =>
   match ops[i]? with
   | some o=>cT (gU P bi call inl ops o st) (Of P bi call inl ops r)
   | none=>Of P bi call inl ops r st
theorem Wd {ops:Array Oper}:∀(l:List Oper) (k:Nat) (st:St),(∀j,l[j]? = ops[k+j]?∨l.length≤j)→mK P bi call inl ops l st=Of P bi call inl ops (List.range' k l.length) st
 | [],k,st,h=>rfl
 | o :: l,k,st,h=>by
   have h0:=(h 0).resolve_right (by simp)
   simp only[List.getElem?_cons_zero,Nat.add_zero] at h0;simp only[mK,List.length_cons,List.range'_succ,Of,← h0];cases gU P bi call inl ops o st with
   | none=>rfl
   | some s =>
     simp only[cT];exact Wd l (k+1) s fun j=>by
      rcases h (j+1) with h|h
      ·left
       rw[show k+1+j=k+(j+1) by omega,← h]
       simp
      ·right
       simpa using h
theorem BJ {ops:Array Oper} {o:Oper} {st s:St} {a:Nat} (h:cH P call ops o st=some s) (hd:o.dst≠some a):s.env a=st.env a:=by
 rw[Gn] at h;cases he:sB P call ops o st with
 | none=>simp[he] at h
 | some e =>
   simp only[he,Option.map_some,Option.some.injEq] at h;subst h;rw[oQ,(oZ he).1,if_neg hd]
theorem aAQ {o:Oper} (h:l8 o=true):Gv o=none:=by simpa [l8] using h
theorem RH {ops:Array Oper} {o:Oper} (h:l8 o=true) (st:St):gU P bi call inl ops o st=cH P call ops o st:=by
 unfold gU;rw[aAQ h];cases bi<;>rfl
theorem K6 {ops:Array Oper} {o:Oper} {st s:St} {a:Nat} (h:gU P bi call inl ops o st=some s) (hd:o.dst≠some a):s.env a=st.env a:=by
 unfold gU at h;have hput:∀(s0:St) (x:AV),(s0.put o.dst x).env a=s0.env a:=fun s0 x=>by
  cases hod:o.dst with
  | none=>rfl
  | some d =>
    simp only[St.put];rw[if_neg];rintro rfl
    exact hd hod
 split at h
 ·split at h
  ·split at h
   ·simp only[Option.map_eq_some_iff] at h;obtain⟨r,_,rfl⟩:=h
    exact hput _ _
   ·simp only[Option.some.injEq] at h;subst h;exact hput _ _
  ·cases h
 ·exact BJ h hd
theorem Rl {ops:Array Oper} {a:Nat}:∀(l:List Nat) {st sf:St},(∀m∈l,∀o,ops[m]? = some o→o.dst≠some a)→Of P bi call inl ops l st=some sf→sf.env a=st.env a
 | [],st,sf,_,h=>by
   simp only[Of,Option.some.injEq] at h;subst h;rfl
 | i :: l,st,sf,hd,h=>by
   unfold Of at h;cases hi:ops[i]? with
   | none=>simp only[hi] at h;exact Rl l (fun m hm=>hd m (by simp[hm])) h
   | some o =>
     simp only[hi] at h;cases h1:gU P bi call inl ops o st with
     | none=>simp[h1,cT] at h
     | some s1 =>
       simp only[h1,cT] at h;rw[Rl l (fun m hm=>hd m (by simp[hm])) h,K6 h1 (hd i (by simp) o hi)]
def B6 (ops:Array Oper) (sf:St) (rest:List Nat) (k:Nat) (ok oi:Oper):Prop :=
 sQ ops ok oi=true∨∃aS bs,iA ok=some aS∧iA oi=some bs∧Oper.apart ops ok oi=true∧Mz sf aS bs ∧
  (∀m∈rest,k≤m→∀o,ops[m]? = some o→∀a∈aS,o.dst≠some a)∧(∀m∈rest,∀o,ops[m]? = some o→∀b∈bs,o.dst≠some b)
theorem BK {ops:Array Oper} (kK:rA P call) (lH:∀(j:Nat) o,ops[j]? = some o→∀d,o.dst=some d→d<nt) {i:Nat} {oi:Oper} (hi:ops[i]? = some oi) (l2:List Nat):∀(l1:List Nat) (st sf:St),Valid nt st→(l1++i :: l2).Pairwise (· < ·) →
 (∀k∈l1,∃ok,ops[k]? = some ok∧l8 ok=true∧l8 oi=true∧B6 ops sf (l1++i :: l2) k ok oi)→Of P bi call inl ops (l1++i :: l2) st=some sf→Of P bi call inl ops (i :: (l1++l2)) st=some sf
 | [],st,sf,_,_,_,h=>h
 | k :: l1,st,sf,hv,hs,nH,h=>by
   obtain⟨ok,oS,Su,hn2,hak⟩:=nH k (by simp)
   have e1:=fun st=>RH (P:=P) (bi:=bi) (call:=call) (inl:=inl) (ops:=ops) Su st
   have e2:=fun st=>RH (P:=P) (bi:=bi) (call:=call) (inl:=inl) (ops:=ops) hn2 st
   simp only[List.cons_append,Of,oS,e1] at h;cases h1:cH P call ops ok st with
   | none=>simp[h1,cT] at h
   | some s1 =>
     simp only[h1,cT] at h;rw[List.cons_append,List.pairwise_cons] at hs;have ih:=BK kK lH hi l2 l1 s1 sf (hv.step kK (lH k ok oS) h1) hs.2 (fun k' hk=>by
      obtain⟨ok',h1,m1,m2,h2⟩:=nH k' (by simp[hk])
      refine⟨ok',h1,m1,m2,h2.imp id ?_⟩
      rintro⟨a,a',e1,e2,e3,e4,e5,e6⟩
      exact⟨a,a',e1,e2,e3,e4,fun m hm=>e5 m (by simp only[List.cons_append];exact List.mem_cons_of_mem _ hm),fun m hm=>e6 m (by simp only[List.cons_append];exact List.mem_cons_of_mem _ hm)⟩) h
     have ih0:=ih
     simp only[Of,hi,e2] at ih;cases h2:cH P call ops oi s1 with
     | none=>simp[h2,cT] at ih
     | some s2 =>
       simp only[h2,cT] at ih;have hcomm:∃s3,cH P call ops oi st=some s3∧cH P call ops ok s3=some s2:=by
        rcases hak with hak|⟨aS,bs,e1',e2',e3,e4,e5,e6⟩
        ·exact aDB hv.hp hak hv.ids h1 h2
        ·have w1:∀m∈i :: (l1++l2),m∈(k :: l1)++i :: l2∧k≤m:=fun m hm=>by
          have hm':m∈l1++i :: l2:=by
           simp only[List.mem_cons,List.mem_append] at hm ⊢;rcases hm with h|h|h
           ·exact .inr (.inl h)
           ·exact .inl h
           ·exact .inr (.inr h)
          exact⟨by simp only[List.cons_append];exact List.mem_cons_of_mem _ hm',Nat.le_of_lt (hs.1 m hm')⟩
         have f1:∀a∈aS,sf.env a=st.env a:=fun a ha=>by
          rw[Rl _ (fun m hm o ho=>e5 m (w1 m hm).1 (w1 m hm).2 o ho a ha) ih0,BJ h1 (e5 k (by simp) (Nat.le_refl _) ok oS a ha)]
         have f2:∀b∈bs,sf.env b=st.env b:=fun b hb=>by
          rw[Rl _ (fun m hm o ho=>e6 m (w1 m hm).1 o ho b hb) ih0,BJ h1 (e6 k (by simp) ok oS b hb)]
         have e4':Mz st aS bs:=fun a ha b hb=>by
          have:=e4 a ha b hb
          rw[f1 a ha,f2 b hb] at this;exact this
         exact aAO hv.ids e1' e2' e3 e4' h1 h2
       obtain⟨s3,h3,h4⟩:=hcomm
       simp only[List.cons_append,Of,hi,oS,e1,e2,h3,h4,cT];exact ih
theorem BL {ops:Array Oper} {Q:Exit→Act→World→Prop} (kK:rA P call) (Rk:BH P inl) (lH:∀(j:Nat) o,ops[j]? = some o→∀d,o.dst=some d→d<nt) {dy:List (Nat × Nat)} {b:Array Nat} (D:Em ops dy b) {sf:St} (hsw:qG ops sf dy)
 (hQ:∀oC a' w',kY F h0 w0 nt oC sf a' w'→Q .normal a' w'):∀(f:Nat) (l:List Nat) (lZ:Array Bool) (st:St) (ρ:Nat→Nat→Value) (a:Act) (w:World),l.length=f→Left ops lZ l→kY F h0 w0 nt ρ st a w →
 Of P bi call inl ops l st=some sf→wpAny P .any ops Q f lZ a w
 | 0,l,lZ,st,ρ,a,w,hf,L,S,he=>by
   have hl:=List.length_eq_zero_iff.1 hf
   subst hl;simp only[Of,Option.some.injEq] at he;subst he;refine⟨?_,hQ ρ a w S⟩
   cases hr:Region.ready .any ops lZ with
   | nil=>rfl
   | cons x xs =>
     have hx:x∈Region.ready .any ops lZ:=by rw[hr];simp
     obtain⟨h1,o,ho,_⟩:=mem_ready.1 hx
     have:=(L.mem x).2 ⟨(Array.getElem?_eq_some_iff.1 ho).1,h1⟩
     simp at this
 | f+1,l,lZ,st,ρ,a,w,hf,L,S,he=>by
   refine⟨fun hr=>?_,fun i hi=>?_⟩
   ·exfalso
    cases l with
    | nil=>simp at hf
    | cons i l =>
      have hil:=(L.mem i).1 (by simp)
      have:i∈Region.ready .any ops lZ:=mem_ready.2 ⟨hil.2,ops[i],Array.getElem?_eq_getElem hil.1,fun e Be hb=>by
       have bA:=D.lt i _ (Array.getElem?_eq_getElem hil.1) e Be hb
       cases hle:lZ.getD e.on false with
       | true=>rfl
       | false =>
         have hsz:e.on<lZ.size:=by rw[L.size];omega
         have hin:=(L.mem e.on).2 ⟨by omega,by rw[IE hsz];exact hle⟩
         rcases List.mem_cons.1 hin with h|h
         ·omega
         ·have:=(List.pairwise_cons.1 L.sorted).1 _ h
          omega⟩
      rw[hr] at this;simp at this
   ·obtain⟨h1,oi,hoi,Nb⟩:=mem_ready.1 hi
    have hilt:i<ops.size:=(Array.getElem?_eq_some_iff.1 hoi).1
    have hil:=(L.mem i).2 ⟨hilt,h1⟩
    obtain⟨l1,l2,rfl⟩:=List.append_of_mem hil
    have hs:=L.sorted
    rw[List.pairwise_append] at hs;obtain⟨s1,s2,s3⟩:=hs
    have hno:∀m,(b.getD i 0).testBit m=true→m ∉ l1++i :: l2:=fun m h hm=>by
     have J1:=(L.mem m).1 hm
     have:=RF D L i oi hoi Nb m h
     rw[← IE (by rw[L.size];exact J1.1),J1.2] at this
     cases this
    have nH:∀k∈l1,∃ok,ops[k]? = some ok∧l8 ok=true∧l8 oi=true∧B6 ops sf (l1++i :: l2) k ok oi:=fun k hk=>by
     have VN:=s3 k hk i (by simp)
     have J1:=(L.mem k).1 (by simp[hk])
     refine⟨ops[k],Array.getElem?_eq_getElem J1.1, ?_⟩
     rcases D.apart k i _ oi VN (Array.getElem?_eq_getElem J1.1) hoi with h|⟨n1,n2,h|⟨hm,h⟩⟩
     ·exact absurd (by simp[hk]) (hno k h)
     ·exact⟨n1,n2,.inl h⟩
     ·refine⟨n1,n2,.inr ?_⟩
      have hsa:=hsw.mem _ hm
      unfold Yk at hsa;simp only[Array.getElem?_eq_getElem J1.1,hoi,Option.bind_some] at hsa;unfold IP at h;cases ha:iA ops[k] with
      | none=>rw[ha] at h;cases h
      | some aS =>
        cases ha':iA oi with
        | none=>rw[ha,ha'] at h;cases h
        | some bs =>
          rw[ha,ha'] at hsa h;simp only[Bool.and_eq_true] at h hsa;refine⟨aS,bs,rfl,rfl,h.1.1,hsa,fun m hm hkm' o ho a haa hd=>?_,fun m hm o ho b xX hd=>?_⟩
          ·have hb:=vY haa _ 0 h.1.2 m o (by simpa using ho) hd
           rw[Nat.zero_add] at hb;have bA:=D.aHr k _ (Array.getElem?_eq_getElem J1.1) m hb
           omega
          ·have hb:=vY xX _ 0 h.2 m o (by simpa using ho) hd
           rw[Nat.zero_add] at hb;exact hno m hb hm
    have Be:=BK kK lH hoi l2 l1 st sf ⟨F,h0,w0,ρ,a,w,S⟩ L.sorted nH he
    simp only[Of,hoi] at Be
    cases h2:gU P bi call inl ops oi st with
    | none=>simp[h2,cT] at Be
    | some s2' =>
      simp only[h2,cT] at Be
      refine Wc S kK Rk hoi (lH i oi hoi) h2 fun oC a' w' S'=>?_
      refine BL kK Rk lH D hsw hQ f (l1++l2) _ s2' oC a' w' (by simp at hf ⊢;omega) ⟨by simp[L.size],fun j=>?_, ?_,fun j o ho hlj e he'' hb=>?_⟩ S' Be
      ·have hm:=L.mem j
       simp only[List.mem_append,List.mem_cons] at hm ⊢;by_cases hji:j=i
       ·subst hji;have Su:j ∉ l1:=fun h=>by have:=s3 j h j (by simp);omega
        have hn2:j ∉ l2:=fun h=>by have:=(List.pairwise_cons.1 s2).1 j h;omega
        have aAj:(lZ.setIfInBounds j true).getD j true=true:=by
         have:j<lZ.size:=by rw[L.size];exact hilt
         simp[this]
        simp[Su,hn2,aAj]
       ·rw[getD_set_ne true (Ne.symm hji)];simpa [hji] using hm
      ·rw[List.pairwise_append];exact⟨s1,(List.pairwise_cons.1 s2).2,fun x hx y hy=>s3 x hx y (by simp[hy])⟩
      ·by_cases hji:i=j
       ·subst hji;rw[hoi] at ho;cases ho
        exact getD_set_true (Nb e he'' hb)
       ·rw[getD_set_ne false hji] at hlj;exact getD_set_true (L.closed j o ho hlj e he'' hb)
theorem KU (hm:P.follows .mixedOrders=true) (kK:rA P call) (Rk:BH P inl) {ops:Array Oper} {id:Nat} {draw:Bool} (oS:codeOk bi nt (.region id ops draw)=true) {Q:Exit→Act→World→Prop} {st sf:St} {ρ:Nat→Nat→Value} {a:Act} {w:World}
 (S:kY F h0 w0 nt ρ st a w) (hsw:bi=true→qG ops sf (Ext.dyn id ops.size (sI ops))) (h:mK P bi call inl ops ops.toList st=some sf) (hQ:∀oC a' w',kY F h0 w0 nt oC sf a' w'→Q .normal a' w'):(Code.region id ops draw).wp P Q a w:=by
 obtain⟨lH,hdraw⟩:=EP oS
 cases draw with
 | false =>
   refine wp_region ?_
   rw[List.range_eq_range'];have:=BI kK Rk lH hQ ops.toList 0 st ρ a w (fun j o hj=>by simpa using hj) S h
   simpa using this
 | true =>
   rw[Wd ops.toList 0 st (fun j=>.inl (by simp))] at h
   obtain⟨b,D⟩:=RC (hdraw rfl)
   refine wp_region_any hm ?_
   have hg:w.grownBy { w with drawn:=w.drawn+1 } none:=⟨rfl,rfl,rfl,Nat.le_refl _,fun _ _ _=>rfl⟩
   have hsw':qG ops sf (if bi=true then Ext.dyn id ops.size (sI ops) else []):=by
    cases bi with
    | true=>exact hsw rfl
    | false=>exact trivial
   refine BL kK Rk lH D hsw' hQ ops.size (List.range' 0 ops.size) _ st ρ a _ (by simp) ⟨by simp,fun j=>?_, ?_,fun j o ho hl=>?_⟩ (S.grow hg).1 (by simpa using h)
   ·rw[← List.range_eq_range',List.mem_range];constructor
    ·intro hj;exact⟨hj,by simp[hj]⟩
    ·exact fun h=>h.1
   ·rw[← List.range_eq_range'];exact List.pairwise_lt_range
   ·simp[Array.getD_eq_getD_getElem?,Array.getElem?_replicate] at hl
    split at hl<;>simp at hl
theorem Gb {p:Nat→Prop} (h:∃n,p n):∃n,p n∧∀m,p m→n≤m:=by
 obtain⟨n,hn⟩:=h
 induction n using Nat.strongRecOn with
 | _ n ih =>
   by_cases hl:∃m,m<n∧p m
   ·obtain⟨m,hm,hp⟩:=hl
    exact ih m hm hp
   ·exact⟨n,hn,fun m hm=>by
     rcases Nat.lt_or_ge m n with h|h
     ·exact absurd ⟨m,h,hm⟩ hl
     ·exact h⟩
noncomputable def BM (p:Nat→Prop):Nat:=if h:∃n,p n then Classical.choose (Gb h) else 0
theorem We {p:Nat→Prop} (h:∃n,p n):p (BM p)∧∀m,p m→BM p≤m:=by
 unfold BM;rw[dif_pos h];exact Classical.choose_spec (Gb h)
def Ex.to:Ex→Exit
 | .normal=>.normal
 | .exit id=>.exit id
 | .ret=>.ret
theorem pY (hm:P.follows .mixedOrders=true) (kK:rA P call) (Rk:BH P inl) (n:Nat):∀(c:Code) (st sf:St) (ex:Ex) (ρ:Nat→Nat→Value) (a:Act) (w:World) (Q:Exit→Act→World→Prop),codeOk bi nt c=true →
 kY F h0 w0 nt ρ st a w→uY P bi call inl n c st=some (ex,sf)→(∀oC a' w',kY F h0 w0 nt oC sf a' w'→Q ex.to a' w')→c.wp P Q a w:=by
 induction n using Nat.strongRecOn with
 | _ n ih =>
 have pY:∀m,m<n→∀(c:Code) (st sf:St) (ex:Ex) (ρ:Nat→Nat→Value) (a:Act) (w:World) (Q:Exit→Act→World→Prop),codeOk bi nt c=true →
  kY F h0 w0 nt ρ st a w→uY P bi call inl m c st=some (ex,sf)→(∀oC a' w',kY F h0 w0 nt oC sf a' w'→Q ex.to a' w')→c.wp P Q a w:=ih
 clear ih
 intro c st sf ex ρ a w Q oS S h hQ;cases n with
 | zero=>simp[uY] at h
 | succ n =>
   cases c<;>simp only[uY] at h
   case skip =>
    simp only[Option.some.injEq,Prod.mk.injEq] at h;obtain⟨rfl,rfl⟩:=h
    exact wp_skip (hQ ρ a w S)
   case region id ops draw =>
    cases h1:mK P bi call inl ops ops.toList st with
    | none=>simp[h1,cT] at h
    | some s1 =>
      simp only[h1,cT] at h;split at h
      ·cases h
      ·rename_i hsw;simp only[Option.some.injEq,Prod.mk.injEq] at h;obtain⟨rfl,rfl⟩:=h
       exact KU hm kK Rk oS S (fun hb=>Classical.byContradiction fun hc=>hsw ⟨hb,hc⟩) h1 hQ
   case seq x y =>
    simp only[codeOk,Bool.and_eq_true] at oS;cases h1:uY P bi call inl n x st with
    | none=>simp[h1,cT] at h
    | some r =>
      obtain⟨e1,s1⟩:=r
      simp only[h1,cT] at h;refine wp_seq (pY n (by omega) x st s1 e1 ρ a w _ oS.1 S h1 fun oC a' w' S'=>?_)
      cases e1 with
      | normal=>exact pY n (by omega) y s1 sf ex oC a' w' Q oS.2 S' h hQ
      | exit id =>
        simp only[Option.some.injEq,Prod.mk.injEq] at h;obtain⟨rfl,rfl⟩:=h
        exact hQ oC a' w' S'
      | ret =>
        simp only[Option.some.injEq,Prod.mk.injEq] at h;obtain⟨rfl,rfl⟩:=h
        exact hQ oC a' w' S'
   case cond c x y =>
    simp only[codeOk,Bool.and_eq_true] at oS;split at h
    ·rename_i t ht;have hr:=S.ev c
     rw[ht] at hr;have hv:=iK hr
     refine wp_cond (t:=t) hv ?_
     cases t with
     | true=>exact pY n (by omega) x st sf ex ρ a w Q oS.1 S (by simpa using h) hQ
     | false=>exact pY n (by omega) y st sf ex ρ a w Q oS.2 S (by simpa using h) hQ
    ·cases h
   case block id b =>
    simp only[codeOk] at oS;cases h1:uY P bi call inl n b st with
    | none=>simp[h1,cT] at h
    | some r =>
      obtain⟨e1,s1⟩:=r
      simp only[h1,cT,Option.some.injEq,Prod.mk.injEq] at h;obtain⟨rfl,rfl⟩:=h
      refine wp_block (pY n (by omega) b st s1 e1 ρ a w _ oS S h1 fun oC a' w' S'=>?_)
      have:=hQ oC a' w' S'
      cases e1 with
      | normal=>exact this
      | exit i =>
        simp only[Ex.inBlock] at this;simp only[Ex.to,Exit.inBlock];by_cases hi:i=id
        ·rw[if_pos hi] at this ⊢;exact this
        ·rw[if_neg hi] at this ⊢;exact this
      | ret=>exact this
   case loop b =>
    have hok':=oS
    simp only[codeOk] at oS;let p:Act→World→Nat→Prop:=fun a w m=>m≤n+1∧∃st ρ,kY F h0 w0 nt ρ st a w∧uY P bi call inl m (.loop b) st=some (ex,sf)
    refine wp_loop (fun a w=>∃m,p a w m) (fun a w=>BM (p a w)) ⟨n+1,Nat.le_refl _,st,ρ,S,h⟩ fun a w hI=>?_
    obtain⟨⟨hle,NH,ρ1,S1,h1⟩,_⟩:=We hI
    generalize BM (p a w)=m at h1 hle
    cases m with
    | zero=>simp[uY] at h1
    | succ m =>
      simp only[uY] at h1;cases h2:uY P bi call inl m b NH with
      | none=>simp[h2,cT] at h1
      | some r =>
        obtain⟨e1,s1⟩:=r
        simp only[h2,cT] at h1;have hmn:m≤n:=by omega
        refine pY m (by omega) b NH s1 e1 ρ1 a w _ oS S1 h2 fun oC a' w' S'=>?_
        cases e1 with
        | normal =>
          have hp:p a' w' m:=⟨by omega,s1,oC,S',h1⟩
          exact⟨⟨m,hp⟩,Nat.lt_succ_of_le ((We ⟨m,hp⟩).2 m hp)⟩
        | exit id =>
          simp only[Option.some.injEq,Prod.mk.injEq] at h1;obtain⟨rfl,rfl⟩:=h1
          exact hQ oC a' w' S'
        | ret =>
          simp only[Option.some.injEq,Prod.mk.injEq] at h1;obtain⟨rfl,rfl⟩:=h1
          exact hQ oC a' w' S'
   case exit id =>
    simp only[Option.some.injEq,Prod.mk.injEq] at h;obtain⟨rfl,rfl⟩:=h
    exact wp_exit (hQ ρ a w S)
   case ret =>
    simp only[Option.some.injEq,Prod.mk.injEq] at h;obtain⟨rfl,rfl⟩:=h
    exact wp_ret (hQ ρ a w S)
   all_goals cases h
end
end Go.Ab
end
section
namespace Go.Ab
open Classical
variable [Ext]
section
variable {P:Program}
theorem RI {h0:Nat→Obj→Prop} {w w':World}:(bare (Ej h0 w w')).Le (bare (newHs h0 w w' [])) :=
 ⟨fun b o h=>⟨h.1,h.2,by simp⟩,fun _=>Nat.le_refl _,fun _ _ h=>absurd h (by simp[bare])⟩
def Au (tmps:Array Value):ResultVar→Sem Value
 | .tmp t=>pure (tmps.getD t undef)
 | .cell p t=>do loadVar t (← asAddr (tmps.getD p undef))
theorem KV {h0:Nat→Obj→Prop} {w0:World} {F:Gw} {nt:Nat} {ρ:Nat→Nat→Value} {st:St} {a:Act} {w:World} (S:kY F h0 w0 nt ρ st a w) {rv:ResultVar} {x:AV} (h:lP P st rv=some x) :
 ∃y,(Au a.tmps rv).run P w=.ok y w∧cY (ctx h0 w0 ρ st w) x y:=by
 cases rv with
 | tmp t =>
   simp only[lP,Option.some.injEq] at h;subst h;exact⟨_,rfl,S.env t⟩
 | cell p T =>
   simp only[lP] at h;cases hra:qO st (st.env p) with
   | none=>simp[hra,cT] at h
   | some cs =>
     simp only[hra,cT] at h;obtain⟨b,off,arr,B,fr,hu,_,_⟩:=Pp S hra (S.env p)
     obtain⟨r,hr,fU⟩:=Ys S hra h (S.env p)
     rw[hu] at hr;refine⟨r, ?_,fU⟩
     simp only[Instr.loadAt,Instr.sureAddr] at hr;simp only[Au,hu,asAddr];exact hr
theorem mA {h0:Nat→Obj→Prop} {w0:World} {F:Gw} {nt:Nat} {ρ:Nat→Nat→Value} {st:St} {a:Act} {w:World} (S:kY F h0 w0 nt ρ st a w):∀(rs:List ResultVar) (xs:List AV),rs.map (lP P st)=xs.map some →
 ∃ys,(rs.mapM (Au a.tmps)).run P w=.ok ys w∧lQ (ctx h0 w0 ρ st w) xs ys
 | [],xs,h=>by
   cases xs with
   | nil=>exact⟨[],rfl,.nil _⟩
   | cons x xs=>simp at h
 | r :: rs,xs,h=>by
   cases xs with
   | nil=>simp at h
   | cons x xs =>
     simp only[List.map_cons,List.cons.injEq] at h;obtain⟨y,hy,fU⟩:=KV S h.1
     obtain⟨ys,Wv,hrels⟩:=mA S rs xs h.2
     refine⟨y :: ys, ?_,.cons fU hrels⟩
     rw[List.mapM_cons,dL hy,dL Wv];rfl
theorem KW {h0:Nat→Obj→Prop} {w0:World} {F:Gw} {nt:Nat} {ρ:Nat→Nat→Value} {st:St} {a:Act} {w:World} (S:kY F h0 w0 nt ρ st a w) {fn:Func} {r:AV} (h:wM P fn st=some r) :
 ∃v,(results fn a.tmps).run P w=.ok v w∧KD h0 w0 w r v:=by
 have RJ:∀(ys:List Value),(fn.results.toList.mapM (Au a.tmps)).run P w=.ok ys w →
  (results fn a.tmps).run P w=.ok (if h:ys.toArray.size=1 then ys.toArray[0] else .tuple ys.toArray) w:=by
  intro ys Wv;have e:results fn a.tmps=(do let vs ← fn.results.mapM (Au a.tmps);pure (if h:vs.size=1 then vs[0] else .tuple vs)):=by
   unfold results;congr 1
  rw[e,Array.mapM_eq_mapM_toList];simp only[Sem.run_bind,Sem.run_map,Wv,Result.andThen_ok,Sem.run_pure]
 unfold wM at h;split at h
 ·rename_i r1 Q2;cases h1:lP P st r1 with
  | none=>simp[h1,cT] at h
  | some x =>
    simp only[h1,cT] at h;obtain⟨ys,Wv,fU⟩:=mA (P:=P) S [r1] [x] (by simp[h1])
    have hlen:=fU.len
    obtain⟨y,rfl⟩:∃y,ys=[y]:=by
     cases ys with
     | nil=>simp at hlen
     | cons y ys=>cases ys with
       | nil=>exact⟨y,rfl⟩
       | cons z zs=>simp at hlen
    have hxy:=fU.head
    have qE:=RJ [y] (by rw[Q2];exact Wv)
    simp at qE
    refine⟨y,qE, ?_⟩
    unfold Vk at h;split at h
    ·rename_i s g;split at h
     ·rename_i e sz n cs he;split at h
      ·rename_i hf;simp only[Option.some.injEq] at h;subst h;obtain⟨_,_,xs,ho,hc⟩:=S.sR s g _ he
       cases hxy with
       | own _ _ hg GG =>
         refine⟨[ρ s g],fun x hx=>by simp at hx;subst hx;exact GG,fun i j x y b hi hj _ _=>by
          have:=(List.getElem?_eq_some_iff.1 hi).1
          have:=(List.getElem?_eq_some_iff.1 hj).1
          simp only[List.length_singleton] at *
          omega,fun x hx b hb=>by simp at hx;subst hx;exact (Dp ho b hb).1,fun d c=>rfl,fun D d c hD lD=>?_⟩
         obtain⟨k1,k2⟩:=lD 0 _ rfl
         simp only[Nat.add_zero] at k1 k2;refine⟨?_,fun i e' x hi hx=>?_⟩
         ·have:=cY.own (C:=D) d c k1 (by rw[k2];exact GG)
          rw[k2] at this;exact this
         ·match i with
          | 0 =>
            simp only[l6,Wk,xZ,List.getElem?_cons_zero,Option.some.injEq] at hi hx;subst hi;subst hx;exact⟨xs,ho,hc.flat hf fun b o hb=>hD b o ⟨hb.1,hb.2.1,by simpa using hb.2.2 s g _ he⟩⟩
          | i+1=>simp at hx
      ·cases h
     ·cases h
    ·exact Tz (Kt h) ((Od S hxy h).le RI)
 ·rename_i rs fQ;simp only[Option.map_eq_some_iff] at h;obtain⟨ds,Ua,rfl⟩:=h
  have hm:=jJ _ _ Ua
  have hex:∃xs:List AV,fn.results.toList.map (lP P st)=xs.map some∧xs.map (Dm st)=ds.map some:=by
   generalize fn.results.toList=l at hm
   clear Ua
   induction l generalizing ds with
   | nil=>cases ds with
     | nil=>exact⟨[],rfl,rfl⟩
     | cons d ds=>simp at hm
   | cons r l ih=>cases ds with
     | nil=>simp at hm
     | cons d ds =>
       simp only[List.map_cons,List.cons.injEq] at hm;obtain⟨xs,e1,e2⟩:=ih ds hm.2
       cases hr:lP P st r with
       | none=>simp[hr,cT] at hm
       | some x =>
         simp only[hr,cT] at hm;exact⟨x :: xs,by simp[hr,e1],by simp[hm.1,e2]⟩
  obtain⟨xs,e1,e2⟩:=hex
  obtain⟨ys,Wv,fU⟩:=mA S _ xs e1
  have yS:xs.length=fn.results.toList.length:=by have:=congrArg List.length e1;simpa using this.symm
  have Wo:ds.length=xs.length:=by have:=congrArg List.length e2;simpa using this.symm
  have aAR:ys.toArray.size≠1:=by
   intro h1;have hlen:=fU.len
   simp only[List.size_toArray] at h1;have:fn.results.toList.length=1:=by omega
   obtain⟨z,hz⟩:=List.length_eq_one_iff.1 this
   exact fQ z hz
  have qE:=RJ ys Wv
  rw[dif_neg aAR] at qE;refine⟨_,qE, ?_⟩
  refine Tz (.eG ds (pL (p:=Flat) (f:=fun r=>cT (lP P st r) (Dm st)) (fun a b h=>by
   cases hr:lP P st a with
   | none=>simp[hr,cT] at h
   | some x=>simp only[hr,cT] at h;exact XR h) _ _ Ua)) (.eG ds ys.toArray (by simp;rw[Wo];exact fU.len) fun i x y hx hy=>?_)
  have hi:i<xs.length:=by have:=(List.getElem?_eq_some_iff.1 hx).1;omega
  have Kn:Dm st xs[i]=some x:=by
   have:=congrArg (·[i]?) e2
   simp only[List.getElem?_map,hx,List.getElem?_eq_getElem hi,Option.map_some,Option.some.injEq] at this;exact this
  exact (QS S (fU.rel i xs[i] y (by simp[hi]) (by simpa using hy)) Kn).le RI
def B7 (w0:World) (ρ:Nat→Nat→Value) (st:St) (w:World) (d:Nat) (H:Nat→Obj→Prop) (f:Nat→AV→AV × List nP) (y:AV) (ks:List (Nat × Nat)) (u:Value):Prop :=
 (∀k∈ks,∃e,st.heap k.1 k.2=some e)∧∀c,(f c y).2.length=ks.length∧∀D:Ctx,(∀b o,H b o→D.h b o)→(∀(i:Nat) (k:Nat × Nat),ks[i]? = some k→c+i<D.aU d∧D.ρ d (c+i)=ρ k.1 k.2) →
  cY D (f c y).1 u∧∀(i:Nat) (e:nP) (k:Nat × Nat),(f c y).2[i]? = some e→ks[i]? = some k→nG D w w0.heap.size (ρ k.1 k.2) e
section qL
variable {h0:Nat→Obj→Prop} {w0:World} {F:Gw} {nt:Nat} {ρ:Nat→Nat→Value} {st:St} {a:Act} {w:World} {H:Nat→Obj→Prop}
theorem aAS (S:kY F h0 w0 nt ρ st a w) (hH:∀b o,(ctx h0 w0 ρ st w).h b o→H b o) {x y:AV} {u:Value} (hu:cY (ctx h0 w0 ρ st w) x u) (h:kM st x=some y) (d:Nat):B7 w0 ρ st w d H (xZ d) y (gQ x) u:=by
 unfold kM at h;split at h
 ·rename_i hf;simp only[Option.some.injEq] at h;subst h;have hk:gQ x=[]:=by cases hf<;>rfl
  rw[hk];refine⟨by simp,fun c=>?_⟩
  rw[Ks hf];exact⟨rfl,fun D hD _=>⟨hu.flat hf fun b o hb=>hD _ _ (hH _ _ hb),by simp⟩⟩
 ·split at h
  ·rename_i s g _;split at h
   ·rename_i e sz n cs he;split at h
    ·rename_i hf;simp only[Option.some.injEq] at h;subst h;obtain⟨_,h1,xs,ho,hc⟩:=S.sR s g _ he
     have hu':u=ρ s g:=by cases hu;rfl
     subst hu'
     refine⟨by simp[gQ];exact⟨_,he⟩,fun c=>⟨rfl,fun D hD lD=>?_⟩⟩
     obtain⟨k1,k2⟩:=lD 0 (s,g) rfl
     simp only[Nat.add_zero] at k1 k2;refine⟨?_,fun i e' k hi hk=>?_⟩
     ·have:=cY.own (C:=D) d c k1 (by rw[k2];exact h1)
      rw[k2] at this;exact this
     ·match i with
      | 0 =>
        simp only[xZ,gQ,List.getElem?_cons_zero,Option.some.injEq] at hi hk;subst hi;subst hk;exact⟨xs,ho,hc.flat hf fun b o hb=>hD _ _ (hH _ _ hb)⟩
      | i+1=>simp[gQ] at hk
    ·cases h
   ·cases h
  ·cases h
theorem aAT {f:Nat→AV→AV × List nP} {kf:AV→List (Nat × Nat)} {d:Nat}:∀(xs ys:List AV) (us:List Value),xs.length=ys.length→xs.length=us.length →
 (∀(i:Nat) (x y:AV) (u:Value),xs[i]? = some x→ys[i]? = some y→us[i]? = some u→B7 w0 ρ st w d H f y (kf x) u) →
 (∀k∈xs.flatMap kf,∃e,st.heap k.1 k.2=some e)∧∀c,(pM f c ys).2.length=(xs.flatMap kf).length∧∀D:Ctx,(∀b o,H b o→D.h b o) →
  (∀(i:Nat) (k:Nat × Nat),(xs.flatMap kf)[i]? = some k→c+i<D.aU d∧D.ρ d (c+i)=ρ k.1 k.2) →
  lQ D (pM f c ys).1 us∧∀(i:Nat) (e:nP) (k:Nat × Nat),(pM f c ys).2[i]? = some e→(xs.flatMap kf)[i]? = some k→nG D w w0.heap.size (ρ k.1 k.2) e
 | [],ys,us,h1,h2,_=>by
   have e1:ys=[]:=List.length_eq_zero_iff.1 (by simpa using h1.symm)
   have e2:us=[]:=List.length_eq_zero_iff.1 (by simpa using h2.symm)
   subst e1;subst e2;exact⟨by simp,fun c=>⟨rfl,fun D _ _=>⟨.nil _,by simp[pM]⟩⟩⟩
 | x :: xs,[],us,h1,_,_=>by simp at h1
 | x :: xs,y :: ys,[],_,h2,_=>by simp at h2
 | x :: xs,y :: ys,u :: us,h1,h2,hg=>by
   obtain⟨g1,g2⟩:=hg 0 x y u rfl rfl rfl
   obtain⟨i1,i2⟩:=aAT xs ys us (by simpa using h1) (by simpa using h2) fun i x' y' u' hx hy hu=>hg (i+1) x' y' u' (by simpa using hx) (by simpa using hy) (by simpa using hu)
   refine⟨fun k hk=>?_,fun c=>?_⟩
   ·simp only[List.flatMap_cons,List.mem_append] at hk;rcases hk with hk|hk
    ·exact g1 k hk
    ·exact i1 k hk
   ·obtain⟨l1,m1⟩:=g2 c
    obtain⟨l2,m2⟩:=i2 (c+(f c y).2.length)
    rw[l1] at l2 m2;simp only[pM,List.flatMap_cons,List.length_append,l1];refine⟨by rw[l2],fun D hD lD=>?_⟩
    obtain⟨r1,e1⟩:=m1 D hD fun i k hk=>lD i k (by rw[List.getElem?_append_left (List.getElem?_eq_some_iff.1 hk).1];exact hk)
    obtain⟨r2,e2⟩:=m2 D hD fun i k hk=>by
     have:=lD ((kf x).length+i) k (by rw[List.getElem?_append_right (by omega)];simpa using hk)
     rw[Nat.add_assoc];exact this
    refine⟨.cons r1 r2,fun i e k hi hk=>?_⟩
    by_cases bA:i<(kf x).length
    ·rw[List.getElem?_append_left (by rw[l1];exact bA)] at hi
     rw[List.getElem?_append_left bA] at hk;exact e1 i e k hi hk
    ·rw[List.getElem?_append_right (by rw[l1];omega),l1] at hi
     rw[List.getElem?_append_right (by omega)] at hk
     exact e2 _ e k hi hk
theorem BN {α β:Type} {f:α→Option β} {l:List α} {r:List β} (h:cM (l.map f)=some r):l.length=r.length∧∀(i:Nat) x y,l[i]? = some x→r[i]? = some y→f x=some y:=by
 have hm:=jJ _ _ h
 have hl:l.length=r.length:=by have:=congrArg List.length hm;simpa using this
 refine⟨hl,fun i x y hx hy=>?_⟩
 have:=congrArg (·[i]?) hm
 simp only[List.getElem?_map,hx,hy,Option.map_some,Option.some.injEq] at this;exact this
theorem aFT (S:kY F h0 w0 nt ρ st a w) (hH:∀b o,(ctx h0 w0 ρ st w).h b o→H b o) {x y:AV} {u:Value} (hu:cY (ctx h0 w0 ρ st w) x u) (h:sF st x=some y) (d:Nat):B7 w0 ρ st w d H (Wk d) y (jF x) u:=by
 cases x
 case agg cs =>
  simp only[sF,Option.map_eq_some_iff] at h;obtain⟨ds,Ua,rfl⟩:=h
  obtain⟨hl,J8⟩:=BN Ua
  cases hu with
  | agg _ ar hla hr h1 =>
    obtain⟨g1,g2⟩:=aAT (w0:=w0) (ρ:=ρ) (st:=st) (w:=w) (H:=H) (f:=xZ d) (kf:=gQ) (d:=d) cs ds ar.toList hl (by simpa using hla) fun i x y v hx hy hv=>aAS S hH (hr i x v hx (by simpa using hv)) (J8 i x y hx hy) d
    refine⟨g1,fun c=>?_⟩
    obtain⟨l1,m1⟩:=g2 c
    refine⟨l1,fun D hD lD=>?_⟩
    obtain⟨r1,e1⟩:=m1 D hD lD
    exact⟨.agg _ ar (by simpa using r1.len) (fun i x y hx hy=>r1.rel i x y hx (by simpa using hy)) h1,e1⟩
 all_goals
  have g:=aAS S hH hu h d
  cases y<;>first|exact g|skip
  all_goals
   exfalso
   simp only[sF] at h;unfold kM at h;split at h
   ·simp at h
   ·simp at h
    try (split at h<;>(try split at h)<;>simp at h)
theorem aFU (S:kY F h0 w0 nt ρ st a w) (hH:∀b o,(ctx h0 w0 ρ st w).h b o→H b o) {x y:AV} {u:Value} (hu:cY (ctx h0 w0 ρ st w) x u) (h:Dn st x=some y) (d:Nat):B7 w0 ρ st w d H (l6 d) y (lW x) u:=by
 cases x
 case eG cs =>
  simp only[Dn,Option.map_eq_some_iff] at h;obtain⟨ds,Ua,rfl⟩:=h
  obtain⟨hl,J8⟩:=BN Ua
  cases hu with
  | eG _ ar hla hr =>
    obtain⟨g1,g2⟩:=aAT (w0:=w0) (ρ:=ρ) (st:=st) (w:=w) (H:=H) (f:=Wk d) (kf:=jF) (d:=d) cs ds ar.toList hl (by simpa using hla) fun i x y v hx hy hv=>aFT S hH (hr i x v hx (by simpa using hv)) (J8 i x y hx hy) d
    refine⟨g1,fun c=>?_⟩
    obtain⟨l1,m1⟩:=g2 c
    refine⟨l1,fun D hD lD=>?_⟩
    obtain⟨r1,e1⟩:=m1 D hD lD
    exact⟨.eG _ ar (by simpa using r1.len) (fun i x y hx hy=>r1.rel i x y hx (by simpa using hy)),e1⟩
 case agg cs =>
  have g:=aFT S hH hu h d
  cases y<;>first|exact g|(simp only[Dn,sF,Option.map_eq_some_iff] at h;obtain⟨_,_,h⟩:=h;cases h)
 all_goals
  have g:=aAS S hH hu h d
  cases y<;>first|exact g|skip
  all_goals
   exfalso
   simp only[Dn,sF] at h;unfold kM at h;split at h
   ·simp at h
   ·simp at h
    try (split at h<;>(try split at h)<;>simp at h)
theorem Wf (S:kY F h0 w0 nt ρ st a w) {x r:AV} {u:Value} (hu:cY (ctx h0 w0 ρ st w) x u) (hn:(lW x).Nodup) (h:Dn st x=some r):KD h0 w0 w r u:=by
 have hH:∀b o,(ctx h0 w0 ρ st w).h b o→newHs h0 w0 w ((lW x).map fun k=>ρ k.1 k.2) b o:=fun b o hb=>by
  have g:=(aFU (H:=(ctx h0 w0 ρ st w).h) S (fun _ _ h=>h) hu h 0).1
  refine⟨hb.1,hb.2.1,fun y hy=>?_⟩
  obtain⟨k,hk,rfl⟩:=List.mem_map.1 hy
  obtain⟨e,he⟩:=g k hk
  exact hb.2.2 _ _ e he
 have g:=fun d=>aFU S hH hu h d
 have key:∀y∈(lW x).map (fun k=>ρ k.1 k.2),∃k e,k∈lW x∧y=ρ k.1 k.2∧st.heap k.1 k.2=some e:=fun y hy=>by
  obtain⟨k,hk,rfl⟩:=List.mem_map.1 hy
  obtain⟨e,he⟩:=(g 0).1 k hk
  exact⟨k,e,hk,rfl,he⟩
 refine⟨(lW x).map fun k=>ρ k.1 k.2,fun y hy=>?_,fun i j y z b hy hz hb oB=>?_,fun y hy b hb=>?_,fun d c=>by rw[((g d).2 c).1];simp,fun D d c hD lD=>?_⟩
 ·obtain⟨k,e,_,rfl,he⟩:=key y hy
  exact (S.sR _ _ e he).2.1
 ·rw[List.getElem?_map] at hy hz;cases hi:(lW x)[i]? with
  | none=>simp[hi] at hy
  | some k=>cases hj:(lW x)[j]? with
    | none=>simp[hj] at hz
    | some k' =>
      simp only[hi,hj,Option.map_some,Option.some.injEq] at hy hz;subst hy;subst hz;obtain⟨e,he⟩:=(g 0).1 k (List.mem_of_getElem? hi)
      obtain⟨e',Be⟩:=(g 0).1 k' (List.mem_of_getElem? hj)
      obtain⟨q1,q2⟩:=S.inj _ _ _ _ e e' b he Be hb oB
      have hkk:k=k':=Prod.ext q1 q2
      subst hkk;obtain⟨hil,Ct⟩:=List.getElem?_eq_some_iff.1 hi
      obtain⟨hjl,hje⟩:=List.getElem?_eq_some_iff.1 hj
      have hp:=List.pairwise_iff_getElem.1 hn
      rcases Nat.lt_trichotomy i j with bA|heq|bA
      ·exact absurd (Ct.trans hje.symm) (hp i j hil hjl bA)
      ·exact heq
      ·exact absurd (hje.trans Ct.symm) (hp j i hjl hil bA)
 ·obtain⟨k,e,_,rfl,he⟩:=key y hy
  exact ((S.sR _ _ e he).2.2.UQ b hb).1
 ·obtain⟨r1,e1⟩:=((g d).2 c).2 D hD fun i k hk=>lD i _ (by rw[List.getElem?_map,hk];rfl)
  refine⟨r1,fun i e y hi hy=>?_⟩
  rw[List.getElem?_map] at hy;cases hk:(lW x)[i]? with
  | none=>simp[hk] at hy
  | some k =>
    simp only[hk,Option.map_some,Option.some.injEq] at hy;subst hy;exact e1 i e k hi hk
end qL
theorem ER {h0:Nat→Obj→Prop} {w0:World} {F:Gw} {nt:Nat} {ρ:Nat→Nat→Value} {st:St} {a:Act} {w:World} (S:kY F h0 w0 nt ρ st a w) {fn:Func} {r:AV} (h:Pj P fn st=some r) :
 ∃v,(results fn a.tmps).run P w=.ok v w∧KD h0 w0 w r v:=by
 have RJ:∀(ys:List Value),(fn.results.toList.mapM (Au a.tmps)).run P w=.ok ys w →
  (results fn a.tmps).run P w=.ok (if h:ys.toArray.size=1 then ys.toArray[0] else .tuple ys.toArray) w:=by
  intro ys Wv;have e:results fn a.tmps=(do let vs ← fn.results.mapM (Au a.tmps);pure (if h:vs.size=1 then vs[0] else .tuple vs)):=by
   unfold results;congr 1
  rw[e,Array.mapM_eq_mapM_toList];simp only[Sem.run_bind,Sem.run_map,Wv,Result.andThen_ok,Sem.run_pure]
 unfold Pj at h;split at h
 ·rename_i r1 Q2;cases h1:lP P st r1 with
  | none=>simp[h1,cT] at h
  | some x =>
    simp only[h1,cT] at h;split at h
    ·rename_i hn;obtain⟨ys,Wv,fU⟩:=mA (P:=P) S [r1] [x] (by simp[h1])
     have hlen:=fU.len
     obtain⟨y,rfl⟩:∃y,ys=[y]:=by
      cases ys with
      | nil=>simp at hlen
      | cons y ys=>cases ys with
        | nil=>exact⟨y,rfl⟩
        | cons z zs=>simp at hlen
     have qE:=RJ [y] (by rw[Q2];exact Wv)
     simp at qE
     exact⟨y,qE,Wf S fU.head hn h⟩
    ·cases h
 ·rename_i rs fQ;cases KG:cM (fn.results.toList.map fun r=>lP P st r) with
  | none=>simp[KG,cT] at h
  | some xs =>
    simp only[KG,cT] at h;split at h
    ·rename_i hn;have e1:=jJ _ _ KG
     obtain⟨ys,Wv,fU⟩:=mA S _ xs e1
     have yS:xs.length=fn.results.toList.length:=by have:=congrArg List.length e1;simpa using this.symm
     have aAR:ys.toArray.size≠1:=by
      intro h1;have hlen:=fU.len
      simp only[List.size_toArray] at h1;have:fn.results.toList.length=1:=by omega
      obtain⟨z,hz⟩:=List.length_eq_one_iff.1 this
      exact fQ z hz
     have qE:=RJ ys Wv
     rw[dif_neg aAR] at qE;exact⟨_,qE,Wf S (.eG xs ys.toArray (by simpa using fU.len) fun i x y hx hy=>fU.rel i x y hx (by simpa using hy)) hn h⟩
    ·cases h
theorem ES {h0:Nat→Obj→Prop} {w0:World} {F:Gw} {nt:Nat} {ρ:Nat→Nat→Value} {st:St} {a:Act} {w:World} (S:kY F h0 w0 nt ρ st a w) {f:Nat} {fn:Func} {r:AV} (h:jT P f fn st=some r) :
 ∃v,(results fn a.tmps).run P w=.ok v w∧KD h0 w0 w r v:=by
 unfold jT at h;split at h
 ·exact ER S h
 ·exact KW S h
theorem aAU {h0:Nat→Obj→Prop} {w:World} {xs:List AV} {vs:Array Value} {nt:Nat} (hh:∀b o,h0 b o→w.heap[b]? = some o) (fU:lQ (bare h0) xs vs.toList) :
 kY Gw.none h0 w nt (fun _ _=>undef) (St.init xs) { tmps:=vs++Array.replicate (nt-vs.size) undef,defers:=[]} w:=by
 have k:(bare h0).Le (ctx h0 w (fun _ _=>undef) (St.init xs) w):=⟨fun b o h=>⟨hh b o h,fun _=>h,fun s g e he=>by simp[St.init] at he⟩,fun _=>Nat.le_refl _,fun _ _ h=>absurd h (by simp[bare])⟩
 refine⟨fun t=>?_,fun s g e he=>by simp[St.init] at he,fun s g s' g' e e' b he=>by simp[St.init] at he,⟨rfl,rfl,rfl,Nat.le_refl _,fun _ _ _=>rfl⟩,by simp;omega,rfl,⟨fun x v h=>h.elim,fun b o h=>h.elim,Nat.zero_le _⟩⟩
 have hlen:=fU.len
 simp only[Array.length_toList] at hlen;show cY _ ((xs[t]?).getD (.v undef)) _
 by_cases ht:t<vs.size
 ·have hx:xs[t]? = some (xs[t]'(by omega)):=by simp[show t<xs.length by omega]
  have hy:vs.toList[t]? = some vs[t]:=by simp[ht]
  have:=(fU.rel t _ _ hx hy).le k
  rw[hx];simp only[Option.getD_some];have e:(vs++Array.replicate (nt-vs.size) undef).getD t undef=vs[t]:=by
   simp[Array.getElem?_append_left ht,ht]
  rw[e];exact this
 ·have hx:xs[t]? = none:=List.getElem?_eq_none (by omega)
  rw[hx];have e:(vs++Array.replicate (nt-vs.size) undef).getD t undef=undef:=by
   rw[Array.getD_eq_getD_getElem?,Array.getElem?_append_right (by omega),Array.getElem?_replicate]
   split<;>rfl
  rw[e];exact .v _
def HW (P:Program):Prop:=rA P Ext.ext
theorem aDD {h0:Nat→Obj→Prop} {w0:World} {F:Gw} {nt:Nat} {ρ:Nat→Nat→Value} {st:St} {a:Act} {w:World} (S:kY F h0 w0 nt ρ st a w) {xs:List AV} {vs:Array Value} {n:Nat} (fU:lQ (ctx h0 w0 ρ st w) xs vs.toList) :
 kY ⟨fun x v=>F.fr x v∨∃t,x=st.env t∧v=a.tmps.getD t undef,F.hb,F.sz⟩ h0 w0 n ρ ((St.init xs).back st) { tmps:=vs++Array.replicate (n-vs.size) undef,defers:=[]} w:=by
 have hc:ctx h0 w0 ρ ((St.init xs).back st) w=ctx h0 w0 ρ st w:=rfl
 refine⟨fun t=>?_,fun s g e he=>?_,fun s g s' g' e e' b he Be=>S.inj s g s' g' e e' b he Be,S.ext,by simp;omega,rfl,⟨fun x v h=>?_,S.Pa.2.1,S.Pa.2.2⟩⟩
 ·have hlen:=fU.len
  simp only[Array.length_toList] at hlen;show cY _ ((xs[t]?).getD (.v undef)) _
  by_cases ht:t<vs.size
  ·have hx:xs[t]? = some (xs[t]'(by omega)):=by simp[show t<xs.length by omega]
   have hy:vs.toList[t]? = some vs[t]:=by simp[ht]
   have:=fU.rel t _ _ hx hy
   rw[hx];simp only[Option.getD_some];have e:(vs++Array.replicate (n-vs.size) undef).getD t undef=vs[t]:=by
    simp[Array.getElem?_append_left ht,ht]
   rw[e];exact this
  ·have hx:xs[t]? = none:=List.getElem?_eq_none (by omega)
   rw[hx];have e:(vs++Array.replicate (n-vs.size) undef).getD t undef=undef:=by
    rw[Array.getD_eq_getD_getElem?,Array.getElem?_append_right (by omega),Array.getElem?_replicate]
    split<;>rfl
   rw[e];exact .v _
 ·exact S.sR s g e he
 ·rcases h with h|⟨t,rfl,rfl⟩
  ·exact S.Pa.1 x v h
  ·exact S.env t
theorem ET {h0:Nat→Obj→Prop} {w0:World} {F:Gw} {nt:Nat} {ρ:Nat→Nat→Value} {st:St} {a:Act} {w:World} (S:kY F h0 w0 nt ρ st a w) {fn:Func} {r:AV} (h:Bp P fn st=some r) :
 ∃v,(results fn a.tmps).run P w=.ok v w∧cY (ctx h0 w0 ρ st w) r v:=by
 have RJ:∀(ys:List Value),(fn.results.toList.mapM (Au a.tmps)).run P w=.ok ys w →
  (results fn a.tmps).run P w=.ok (if h:ys.toArray.size=1 then ys.toArray[0] else .tuple ys.toArray) w:=by
  intro ys Wv;have e:results fn a.tmps=(do let vs ← fn.results.mapM (Au a.tmps);pure (if h:vs.size=1 then vs[0] else .tuple vs)):=by
   unfold results;congr 1
  rw[e,Array.mapM_eq_mapM_toList];simp only[Sem.run_bind,Sem.run_map,Wv,Result.andThen_ok,Sem.run_pure]
 unfold Bp at h;split at h
 ·rename_i r1 Q2;obtain⟨ys,Wv,fU⟩:=mA (P:=P) S [r1] [r] (by simp[h])
  have hlen:=fU.len
  obtain⟨y,rfl⟩:∃y,ys=[y]:=by
   cases ys with
   | nil=>simp at hlen
   | cons y ys=>cases ys with
     | nil=>exact⟨y,rfl⟩
     | cons z zs=>simp at hlen
  have qE:=RJ [y] (by rw[Q2];exact Wv)
  simp at qE
  exact⟨y,qE,fU.head⟩
 ·rename_i rs fQ;cases KG:cM (fn.results.toList.map fun r=>lP P st r) with
  | none=>simp[KG] at h
  | some xs =>
    simp only[KG,Option.map_some,Option.some.injEq] at h;subst h;have e1:=jJ _ _ KG
    obtain⟨ys,Wv,fU⟩:=mA S _ xs e1
    have yS:xs.length=fn.results.toList.length:=by have:=congrArg List.length e1;simpa using this.symm
    have aAR:ys.toArray.size≠1:=by
     intro h1;have hlen:=fU.len
     simp only[List.size_toArray] at h1;have:fn.results.toList.length=1:=by omega
     obtain⟨z,hz⟩:=List.length_eq_one_iff.1 this
     exact fQ z hz
    have qE:=RJ ys Wv
    rw[dif_neg aAR] at qE;exact⟨_,qE,.eG xs ys.toArray (by simpa using fU.len) fun i x y hx hy=>fU.rel i x y hx (by simpa using hy)⟩
theorem EU {xs:List AV} {u:Nat × Nat × Nat × List AV × List AV} (h:uC xs=some u):xs=.uniq u.1 u.2.1 u.2.2.1 u.2.2.2.1 :: u.2.2.2.2:=by
 unfold uC at h;split at h
 ·simp only[Option.some.injEq] at h;subst h;rfl
 ·cases h
theorem K7 {h0:Nat→Obj→Prop} {w:World} {v0:Value} {e sz m:Nat} {cs xs:List AV} {ys:List Value} {vs:Array Value} {nt:Nat} (hh:∀b o,h0 b o→w.heap[b]? = some o) (fQ:∀b o,h0 b o→dI v0≠some b) (ho:oD w 0 e sz v0 m ys) (hc:gD (bare h0) cs ys) (fU:lQ (bare h0) xs vs.toList) :
 kY ⟨fun _ _=>False,fun b o=>w.heap[b]? = some o∧dI v0≠some b,w.heap.size⟩ h0 { w with heap:=#[]} nt (fun s g=>if s=0∧g=0 then v0 else undef) (St.tH e sz m cs xs) { tmps:=(#[v0]++vs)++Array.replicate (nt-(#[v0]++vs).size) undef,defers:=[]} w:=by
 have At:∀s g e',(St.tH e sz m cs xs).heap s g=some e'→s=0∧g=0∧e'=.row e sz m cs:=fun s g e' h=>by
  simp only[St.tH] at h;split at h
  ·rename_i h1;cases h;exact⟨h1.1,h1.2,rfl⟩
  ·cases h
 have k:(bare h0).Le (ctx h0 { w with heap:=#[]} (fun s g=>if s=0∧g=0 then v0 else undef) (St.tH e sz m cs xs) w) :=
  ⟨fun b o h=>⟨hh b o h,fun bA=>by simp at bA,fun s g e' he=>by
   obtain⟨rfl,rfl,_⟩:=At _ _ _ he
   exact fQ b o h⟩,fun _=>Nat.zero_le _,fun _ _ h=>absurd h (by simp[bare])⟩
 refine⟨fun t=>?_,fun s g e' he=>?_,fun s g s' g' e1 e2 b he Be _ _=>?_,⟨rfl,rfl,rfl,Nat.zero_le _,fun b hb _=>by simp at hb⟩,by simp;omega,rfl,⟨fun x v h=>h.elim,fun b o h=>⟨h.1,fun bA=>by simp at bA,fun s g e' he=>?_⟩,Nat.le_refl _⟩⟩
 ·have hlen:=fU.len
  simp only[Array.length_toList] at hlen;cases t with
  | zero =>
    have e0:((#[v0]++vs)++Array.replicate (nt-(#[v0]++vs).size) undef).getD 0 undef=v0:=by
     simp[Array.getElem?_append]
    rw[e0];have:=cY.own (C:=ctx h0 { w with heap:=#[]} (fun s g=>if s=0∧g=0 then v0 else undef) (St.tH e sz m cs xs) w) 0 0 (by show 0<(St.tH e sz m cs xs).aU 0;simp[St.tH]) (by show (if (0:Nat)=0∧(0:Nat)=0 then v0 else undef).oneCell'=true;simp;exact tI ho)
    have e1:(ctx h0 { w with heap:=#[]} (fun s g=>if s=0∧g=0 then v0 else undef) (St.tH e sz m cs xs) w).ρ 0 0=v0:=by show (if (0:Nat)=0∧(0:Nat)=0 then v0 else undef)=v0;simp
    rw[e1] at this;exact this
  | succ t =>
    show cY _ ((xs[t]?).getD (.v undef)) _
    by_cases ht:t<vs.size
    ·have hx:xs[t]? = some (xs[t]'(by omega)):=by simp[show t<xs.length by omega]
     have hy:vs.toList[t]? = some vs[t]:=by simp[ht]
     have:=(fU.rel t _ _ hx hy).le k
     rw[hx];simp only[Option.getD_some];have e2:((#[v0]++vs)++Array.replicate (nt-(#[v0]++vs).size) undef).getD (t+1) undef=vs[t]:=by
      rw[Array.getD_eq_getD_getElem?,Array.getElem?_append_left (by simp;omega),Array.getElem?_append_right (by simp)]
      simp[ht]
     rw[e2];exact this
    ·have hx:xs[t]? = none:=List.getElem?_eq_none (by omega)
     rw[hx];have e2:((#[v0]++vs)++Array.replicate (nt-(#[v0]++vs).size) undef).getD (t+1) undef=undef:=by
      rw[Array.getD_eq_getD_getElem?,Array.getElem?_append_right (by simp;omega),Array.getElem?_replicate]
      split<;>rfl
     rw[e2];exact .v _
 ·obtain⟨rfl,rfl,rfl⟩:=At _ _ _ he
  refine⟨by simp[St.tH],by simp;exact tI ho, ?_⟩
  simp only[and_self,if_true];exact⟨ys,ho,hc.le k⟩
 ·obtain⟨rfl,rfl,_⟩:=At _ _ _ he
  obtain⟨rfl,rfl,_⟩:=At _ _ _ Be
  exact⟨rfl,rfl⟩
 ·obtain⟨rfl,rfl,_⟩:=At _ _ _ he
  exact h.2
theorem aDE (hm:P.follows .mixedOrders=true) {call:Nat→List AV→Option AV} {inl:Nat→List AV→St→Option (AV × St)} (kK:rA P call) (Rk:BH P inl) {n g:Nat} {xs:List AV} {u:Nat × Nat × Nat × List AV × List AV} (hq:uC xs=some u) {r:AV}
 (h:runM P call inl n g u.1 u.2.1 u.2.2.1 u.2.2.2.1 u.2.2.2.2=some r):Dd P g∧Jd P g xs r:=by
 have KG:=EU hq
 subst KG;obtain⟨e,sz,m,cs,rest⟩:=u
 simp only at h ⊢
 unfold runM at h;cases hf:P.funcs[g]? with
 | none=>simp[hf] at h
 | some fn =>
   simp only[hf] at h;split at h
   ·rename_i oS;cases hb:fn.body with
    | none=>simp[hb] at h
    | some c =>
      simp only[hb] at h;simp only[sV,GF,hb,Bool.and_eq_true,bne_iff_ne,ne_eq] at oS;refine⟨⟨fn,hf,by simpa using oS.1,by simp[hb]⟩, ?_⟩
      show XP P g e sz m cs rest r
      intro w h0 v0 ys vs hh fQ ho Ac fU;cases h1:uY P (oA c) call inl n c (St.tH e sz m cs rest) with
      | none=>simp[h1,cT] at h
      | some es =>
        obtain⟨ex,sf⟩:=es
        simp only[h1,cT] at h;refine calls_of_wp hf hb ?_
        refine pY hm kK Rk n c (St.tH e sz m cs rest) sf ex _ _ w _ oS.2 (K7 hh fQ ho Ac fU) h1 fun oC a' w' S'=>?_
        have fin:Kg P fn sf=some r→∃e' tU n' Fq,r=.uniq e' tU n' Fq∧a'.defers=[]∧∃v',(results fn a'.tmps).run P w'=.ok v' w'∧w.grownBy w' (dI v0) ∧
         ∃zs,oD w' 0 e' tU v' n' zs∧gD (bare h0) Fq zs∧∀b,dI v'=some b→dI v0=some b∨w.heap.size≤b:=fun h=>by
         unfold Kg at h;split at h
         ·rename_i r1 Q2;split at h
          ·rename_i s k hrv;split at h
           ·rename_i e' tU n' Fq hhp
            split at h
            ·rename_i hmf;simp only[Option.some.injEq] at h;subst h;obtain⟨y,hy,Rc⟩:=mA (P:=P) S' [r1] [.own s k] (by simp[hrv])
             have hlen:=Rc.len
             obtain⟨z,rfl⟩:∃z,y=[z]:=by
              cases y with
              | nil=>simp at hlen
              | cons y ys=>cases ys with
                | nil=>exact⟨y,rfl⟩
                | cons z zs=>simp at hlen
             have hz:z=oC s k:=by
              have:=Rc.head
              cases this
              rfl
             subst hz;have qE:(results fn a'.tmps).run P w'=.ok (oC s k) w':=by
              have e1:results fn a'.tmps=(do let vs ← fn.results.mapM (Au a'.tmps);pure (if h:vs.size=1 then vs[0] else .tuple vs)):=by
               unfold results;congr 1
              rw[e1,Array.mapM_eq_mapM_toList,Q2];simp only[Sem.run_bind,Sem.run_map,hy,Result.andThen_ok,Sem.run_pure];simp
             obtain⟨_,_,zs,hzo,hzc⟩:=S'.sR s k _ hhp
             obtain⟨_,hkb,hsz⟩:=S'.Pa
             refine⟨e',tU,n',Fq,rfl,S'.defers,_,qE,⟨S'.ext.os,S'.ext.tape,S'.ext.output,hsz,fun b hb hnb=>?_⟩,zs, ?_, ?_,fun b hb=>?_⟩
             ·have DO:w.heap[b]? = some w.heap[b]:=Array.getElem?_eq_getElem hb
              rw[DO];exact (hkb b _ ⟨DO,fun h=>hnb h.symm⟩).1
             ·exact zX hzo (Nat.zero_le _)
             ·exact⟨hzc.len,fun i x y hx hy=>(hzc.rel i x y hx hy).Ra (hmf x (List.mem_of_getElem? hx)),hzc.one⟩
             ·by_cases h1:dI v0=some b
              ·exact .inl h1
              ·right
               rcases Nat.lt_or_ge b w.heap.size with bA|hge
               ·exfalso
                have DO:w.heap[b]? = some w.heap[b]:=Array.getElem?_eq_getElem bA
                exact (hkb b _ ⟨DO,h1⟩).2.2 s k _ hhp hb
               ·exact hge
            ·cases h
           ·cases h
          ·rename_i s k n0 hrv;split at h
           ·rename_i e' tU n' Fq hhp
            split at h
            ·rename_i hmf;obtain⟨Bu,hcl',hmf⟩:=hmf
             simp only[Option.some.injEq] at h;subst h;obtain⟨y,hy,Rc⟩:=mA (P:=P) S' [r1] [.vw s k 0 n0] (by simp[hrv])
             have hlen:=Rc.len
             obtain⟨z,rfl⟩:∃z,y=[z]:=by
              cases y with
              | nil=>simp at hlen
              | cons y ys=>cases ys with
                | nil=>exact⟨y,rfl⟩
                | cons z zs=>simp at hlen
             obtain⟨_,_,zs,hzo,hzc⟩:=S'.sR s k _ hhp
             obtain⟨_,hkb,hsz⟩:=S'.Pa
             have hz:∃b cap cur,z=.slice (some ⟨b,0,none⟩) n0 cap∧dI (oC s k)=some b∧w'.heap[b]? = some (.cells cur e' (0,0))∧n0≤cap∧cap≤maxLen∧cur.size=cap * tU∧cur.toList.take (n' * tU)=zs∧0<cap:=by
              have hv:=Rc.head
              cases hv with
              | vw _ _ _ _ b cap hg hb mZ zW =>
                have oB:dI (oC s k)=some b:=hb
                rcases hzo.2 with ⟨q,lD,hn⟩|⟨b',DP,cur,lD,xP,hh,K0,J3,KF,ht,qP⟩
                ·rw[lD,pV] at oB;cases oB
                ·have xX:b'=b:=by rw[lD,kI qP] at oB;simpa using oB
                 subst xX;have hcc:cap=DP:=zW rfl _ _ _ lD
                 subst hcc;exact⟨b',cap,cur,rfl,oB,hh,mZ,J3,KF,ht,qP⟩
             obtain⟨b,cap,cur,rfl,hbk,hhb,mZ,J3,KF,ht,qP⟩:=hz
             have qE:(results fn a'.tmps).run P w'=.ok (.slice (some ⟨b,0,none⟩) n0 cap) w':=by
              have e1:results fn a'.tmps=(do let vs ← fn.results.mapM (Au a'.tmps);pure (if h:vs.size=1 then vs[0] else .tuple vs)):=by
               unfold results;congr 1
              rw[e1,Array.mapM_eq_mapM_toList,Q2];simp only[Sem.run_bind,Sem.run_map,hy,Result.andThen_ok,Sem.run_pure];simp
             have hks:n0 * tU≤n' * tU:=Nat.mul_le_mul_right _ Bu
             refine⟨e',tU,n0,_,rfl,S'.defers,_,qE,⟨S'.ext.os,S'.ext.tape,S'.ext.output,hsz,fun b hb hnb=>?_⟩,zs.take (n0 * tU), ?_, ?_,fun b1 VG=>?_⟩
             ·have DO:w.heap[b]? = some w.heap[b]:=Array.getElem?_eq_getElem hb
              rw[DO];exact (hkb b _ ⟨DO,fun h=>hnb h.symm⟩).1
             ·refine⟨by rw[List.length_take,hzo.1];omega,.inr ⟨b,cap,cur,rfl,Nat.zero_le _,hhb,mZ,J3,KF, ?_,qP⟩⟩
              rw[← ht,List.take_take,Nat.min_eq_left hks]
             ·have hz2:gD (bare h0) Fq zs:=⟨hzc.len,fun i x y hx hy=>(hzc.rel i x y hx hy).Ra (hmf x (List.mem_of_getElem? hx)),hzc.one⟩
              exact hz2.take _
             ·rw[kI qP] at VG;simp only[Option.some.injEq] at VG;subst VG;by_cases h1:dI v0=some b
              ·exact .inl h1
              ·right
               rcases Nat.lt_or_ge b w.heap.size with bA|hge
               ·exfalso
                have DO:w.heap[b]? = some w.heap[b]:=Array.getElem?_eq_getElem bA
                exact (hkb b _ ⟨DO,h1⟩).2.2 s k _ hhp hbk
               ·exact hge
            ·cases h
           ·cases h
          ·cases h
         ·cases h
        cases ex with
        | normal=>obtain⟨e',tU,n',Fq,rfl,h1,v',h2,h3,h4⟩:=fin h;exact⟨h1,v',h2,v',rfl,h3,h4⟩
        | ret=>obtain⟨e',tU,n',Fq,rfl,h1,v',h2,h3,h4⟩:=fin h;exact⟨h1,v',h2,v',rfl,h3,h4⟩
        | exit id=>cases h
   ·cases h
theorem B8 (hm:P.follows .mixedOrders=true) (hx:HW P):∀n,rA P (Oz P n)∧BH P (Ym P n)
 | 0=>⟨fun g xs r h=>hx g xs r h,fun g xs st r s' h=>by cases h⟩
 | n+1=>by
   obtain⟨ihc,ihi⟩:=B8 hm hx n
   refine⟨fun g xs r h=>?_,fun g xs st r s' h=>?_⟩
   ·rw[zV] at h;split at h
    ·rename_i r' he
     simp only[Option.some.injEq] at h;subst h;exact hx g xs _ he
    ·cases hq:uC xs with
     | some u =>
       simp only[hq] at h;exact aDE hm ihc ihi hq h
     | none =>
     simp only[hq] at h;split at h
     ·cases h
     rename_i hnu;unfold D9 at h;cases hf:P.funcs[g]? with
     | none=>simp[hf] at h
     | some fn =>
       simp only[hf] at h;split at h
       ·rename_i oS;cases hb:fn.body with
        | none=>simp[hb] at h
        | some c =>
          simp only[hb] at h;simp only[sV,GF,hb,Bool.and_eq_true,bne_iff_ne,ne_eq] at oS;have hX:Tw P g xs r→Jd P g xs r:=fun h=>by
           unfold Jd;split
           ·simp[uB] at hnu
           ·exact h
          refine⟨⟨fn,hf,by simpa using oS.1,by simp[hb]⟩,hX fun w h0 vs hh fU=>?_⟩
          cases h1:uY P (oA c) (Oz P n) (Ym P n) n c (St.init xs) with
          | none=>simp[h1,cT] at h
          | some es =>
            obtain⟨ex,sf⟩:=es
            simp only[h1,cT] at h;refine calls_of_wp hf hb ?_
            refine pY hm ihc ihi n c (St.init xs) sf ex _ _ w _ oS.2 (aAU hh fU) h1 fun oC a' w' S'=>?_
            have fin:jT P g fn sf=some r→a'.defers=[]∧∃v,(results fn a'.tmps).run P w'=.ok v w'∧∃v',Ending.returned v=.returned v'∧KD h0 w w' r v'∧w.grownBy w' none:=fun h=>by
             obtain⟨v,hv,hr⟩:=ES S' h
             exact⟨S'.defers,v,hv,v,rfl,hr,S'.ext⟩
            cases ex with
            | normal=>exact fin h
            | ret=>exact fin h
            | exit id=>cases h
       ·cases h
   ·rw[Pl] at h;unfold E0 at h;cases hf:P.funcs[g]? with
    | none=>simp[hf] at h
    | some fn =>
      simp only[hf] at h;split at h
      ·rename_i oS;cases hb:fn.body with
       | none=>simp[hb] at h
       | some c =>
         simp only[hb] at h;simp only[GF,hb,Bool.and_eq_true,bne_iff_ne,ne_eq] at oS;refine⟨⟨fn,hf,by simpa using oS.1,by simp[hb]⟩,fun F h0 w0 nt ρ a w vs K S fU hK=>?_⟩
         cases h1:uY P true (Oz P n) (Ym P n) n c ((St.init xs).back st) with
         | none=>simp[h1,cT] at h
         | some es =>
           obtain⟨ex,sf⟩:=es
           simp only[h1,cT] at h;refine calls_of_wp hf hb ?_
           refine pY (F:=⟨fun x v=>F.fr x v∨∃t,x=st.env t∧v=a.tmps.getD t undef,F.hb,F.sz⟩) hm ihc ihi n c ((St.init xs).back st) sf ex _ _ w _ oS.2 (aDD S fU) h1 fun oC a' w' S'=>?_
           have fin:((Bp P fn sf).map fun x=>(x,sf))=some (r,s')→a'.defers=[]∧∃v,(results fn a'.tmps).run P w'=.ok v w'∧∃v',Ending.returned v=.returned v'∧K v' w':=fun h=>by
            cases hfi:Bp P fn sf with
            | none=>simp[hfi] at h
            | some x =>
              simp only[hfi,Option.map_some,Option.some.injEq,Prod.mk.injEq] at h;obtain⟨rfl,rfl⟩:=h
              obtain⟨v,hv,hr⟩:=ET S' hfi
              refine⟨S'.defers,v,hv,v,rfl,hK oC w' v ?_ hr⟩
              exact⟨fun t=>S'.Pa.1 _ _ (.inr ⟨t,rfl,rfl⟩),fun s g e he=>S'.sR s g e he,fun s g s2 g' e e' b he Be=>S'.inj s g s2 g' e e' b he Be,S'.ext,S.size,S.defers,⟨fun x v h=>S'.Pa.1 x v (.inl h),S'.Pa.2.1,S'.Pa.2.2⟩⟩
           cases ex with
           | normal=>exact fin h
           | ret=>exact fin h
           | exit id=>cases h
      ·cases h
theorem aAV (hm:P.follows .mixedOrders=true) (hx:HW P) (n:Nat):rA P (Oz P n):=(B8 hm hx n).1
end
end Go.Ab
end
section
namespace Go.Ab
open Classical
variable [Ext]
noncomputable def lJ {α:Type} (g:Nat→Option α):Option α:=if h:∃n r,g n=some r then some (Classical.choose (Classical.choose_spec h)) else none
theorem Yf {α:Type} {g:Nat→Option α} (hm:∀n r,g n=some r→g (n+1)=some r) {n m:Nat} (h:n≤m) {r:α} (hr:g n=some r):g m=some r:=by
 induction m with
 | zero=>have:n=0:=by omega
         subst this;exact hr
 | succ m ih =>
   rcases Nat.lt_or_ge m n with h'|h'
   ·have:n=m+1:=by omega
    subst this;exact hr
   ·exact hm m r (ih h')
theorem KX {α:Type} {g:Nat→Option α} (hm:∀n r,g n=some r→g (n+1)=some r) (r:α):lJ g=some r↔∃n,g n=some r:=by
 unfold lJ;constructor
 ·intro h;split at h
  ·rename_i hh;simp only[Option.some.injEq] at h;exact⟨Classical.choose hh,by rw[← h];exact Classical.choose_spec (Classical.choose_spec hh)⟩
  ·cases h
 ·rintro⟨n,hn⟩
  have hh:∃n r,g n=some r:=⟨n,r,hn⟩
  rw[dif_pos hh];have h2:=Classical.choose_spec (Classical.choose_spec hh)
  congr 1
  rcases Nat.le_total n (Classical.choose hh) with hle|hle
  ·have:=Yf hm hle hn
   rw[h2] at this;exact Option.some.inj this
  ·have:=Yf hm hle h2
   rw[hn] at this;exact (Option.some.inj this).symm
theorem fZ {α β:Type} {x:Option α} {f:α→Option β} {r:β}:cT x f=some r↔∃a,x=some a∧f a=some r:=by
 cases x<;>simp[cT]
def BO (i i':Nat→List AV→St→Option (AV × St)):Prop:=∀g xs st r,i g xs st=some r→i' g xs st=some r
def vZ (c c':Nat→List AV→Option AV):Prop:=∀g xs r,c g xs=some r→c' g xs=some r
section
variable (P:Program) {c c':Nat→List AV→Option AV} {i i':Nat→List AV→St→Option (AV × St)} {bi:Bool}
theorem BP {α β:Type} {x y:Option α} {f:α→Option β} {r:β} (h:∀a,x=some a→y=some a) (hx:cT x f=some r):cT y f=some r:=by
 cases Kn:x with
 | none=>simp[Kn,cT] at hx
 | some a=>rw[h a Kn];rw[Kn] at hx;exact hx
theorem Ci (h:vZ c c') {g:Nat} {args:List AV} {st:St} {dst:Option Nat} {e:rX} (he:aO c g args st dst=some e):aO c' g args st dst=some e:=by
 unfold aO at *
 split at he
 ·rename_i hf;rw[if_pos hf];exact BP (h g args) he
 ·rename_i hf;rw[if_neg hf];split at he
  ·rename_i xs KG;exact BP (h g xs) he
  ·cases he
theorem RK (h:vZ c c') {g:Nat} {args:List AV} {st:St} {dst:Option Nat} {e:rX} (he:lN c g args st dst=some e):lN c' g args st dst=some e:=by
 unfold lN at *
 split at he
 ·split at he
  ·rename_i e0 sz n cs hh;split at he
   ·rename_i hc;rename_i rest _;simp only[hh,if_pos hc];cases hr:c g (.uniq e0 sz n cs :: rest) with
    | none=>simp[hr] at he
    | some r=>rw[h _ _ _ hr];rw[hr] at he;exact he
   ·cases he
  ·cases he
 ·split at he
  ·rename_i hc;rw[if_pos hc];exact Ci h he
  ·cases he
theorem KY (h:vZ c c') {g:Nat} {args:List AV} {st:St} {dst:Option Nat} {e:rX} (he:fG c g args st dst=some e):fG c' g args st dst=some e:=by
 unfold fG at *
 split at he
 ·rename_i s k hk;split at he
  ·rename_i oS;rw[if_pos oS];split at he
   ·rename_i xs KG;exact BP (h g xs) he
   ·cases he
  ·cases he
 ·rename_i hk;exact Ci h he
theorem KZ (h:vZ c c') {f:Operand} {args:List AV} {st:St} {dst:Option Nat} {e:rX} (he:nY c f args st dst=some e):nY c' f args st dst=some e:=by
 cases f
 case func g =>
  simp only[nY] at *
  by_cases hm:Ext.mv g=true
  ·rw[if_pos hm] at *
   exact RK h he
  ·rw[if_neg hm] at *
   by_cases hm2:Ext.eat g dst=true
   ·rw[if_pos hm2] at *
    exact KY h he
   ·rw[if_neg hm2] at *
    exact Ci h he
 all_goals
  simp only[nY] at *
  split at he
  ·exact Ci h he
  ·cases he
theorem YG (h:vZ c c') {o:Oper} {st:St} {e:rX} (he:dP P c o st=some e):dP P c' o st=some e:=by
 obtain⟨dst,op,type,pos,after,guard⟩:=o
 cases op
 case call cl =>
  simp only[dP] at *
  unfold iS at *
  split at he
  ·exact KZ h he
  all_goals exact he
 case makeMap T r=>cases r<;>exact he
 all_goals exact he
theorem K8 (h:vZ c c') {ops:Array Oper} {o:Oper} {st s:St} (he:cH P c ops o st=some s):cH P c' ops o st=some s:=by
 unfold cH at *
 split at he
 ·split at he
  ·rename_i b hg hb;rw[if_pos hb];cases h1:dP P c o st with
   | none=>simp[h1] at he
   | some e=>rw[YG P h h1];rw[h1] at he;exact he
  ·rename_i b hg hb;rw[if_neg hb];exact he
 ·cases he
theorem BR (h:vZ c c') (hi:BO i i') {ops:Array Oper} {o:Oper} {st s:St} (he:gU P bi c i ops o st=some s):gU P bi c' i' ops o st=some s:=by
 unfold gU at he ⊢
 cases hg:(if bi=true then Gv o else none) with
 | none =>
   simp only[hg] at he ⊢;exact K8 P h he
 | some ga =>
   obtain⟨g,args⟩:=ga
   simp only[hg] at he ⊢;cases hgv:gv ops st o.guard with
   | none=>simp[hgv] at he
   | some t =>
     simp only[hgv] at he ⊢;cases t with
     | false=>exact he
     | true =>
       simp only[if_true] at he ⊢;cases h1:i g (args.map st.ev) st with
       | none=>simp[h1] at he
       | some r=>rw[hi _ _ _ _ h1];rw[h1] at he;exact he
theorem Cj (h:vZ c c') (hi:BO i i') {ops:Array Oper}:∀(l:List Oper) {st s:St},mK P bi c i ops l st=some s→mK P bi c' i' ops l st=some s
 | [],st,s,he=>he
 | o :: l,st,s,he=>by
   simp only[mK] at *
   obtain⟨s1,h1,h2⟩:=fZ.1 he
   exact fZ.2 ⟨s1,BR P h hi h1,Cj h hi l h2⟩
theorem oR (h:vZ c c') (hi:BO i i'):∀(n m:Nat),n≤m→∀(x:Code) (st:St) (r:Ex × St),uY P bi c i n x st=some r→uY P bi c' i' m x st=some r
 | 0,_,_,_,_,_,he=>by simp[uY] at he
 | n+1,0,hle,_,_,_,_=>by omega
 | n+1,m+1,hle,x,st,r,he=>by
   have ih:=oR h hi n m (by omega)
   cases x<;>simp only[uY] at he ⊢<;>(try exact he)
   case region id ops draw =>
    obtain⟨s1,h1,h2⟩:=fZ.1 he
    exact fZ.2 ⟨s1,Cj P h hi _ h1,h2⟩
   case seq a b =>
    obtain⟨⟨e1,s1⟩,h1,h2⟩:=fZ.1 he
    refine fZ.2 ⟨(e1,s1),ih _ _ _ h1, ?_⟩
    cases e1 with
    | normal=>exact ih _ _ _ h2
    | _=>exact h2
   case cond cc a b =>
    split at he
    ·split at he
     ·rename_i hb;rw[if_pos hb];exact ih _ _ _ he
     ·rename_i hb;rw[if_neg hb];exact ih _ _ _ he
    ·cases he
   case block id b =>
    obtain⟨r1,h1,h2⟩:=fZ.1 he
    exact fZ.2 ⟨r1,ih _ _ _ h1,h2⟩
   case loop b =>
    obtain⟨⟨e1,s1⟩,h1,h2⟩:=fZ.1 he
    refine fZ.2 ⟨(e1,s1),ih _ _ _ h1, ?_⟩
    cases e1 with
    | normal=>exact ih _ _ _ h2
    | _=>exact h2
theorem Uh:∀n,vZ (Oz P n) (Oz P (n+1))∧BO (Ym P n) (Ym P (n+1))
 | 0=>⟨fun g xs r h=>by
   rw[Yn] at h;rw[zV,h],fun g xs st r h=>by cases h⟩
 | n+1=>by
   obtain⟨ih,ii⟩:=Uh n
   refine⟨fun g xs r h=>?_,fun g xs st r h=>?_⟩
   ·rw[zV] at h ⊢;cases he:Ext.ext g xs with
    | some r'=>rw[he] at h;exact h
    | none =>
      simp only[he] at h;simp only
      cases hq:uC xs with
      | some u =>
        simp only[hq] at h;simp only
        unfold runM at h ⊢
        split at h
        ·split at h
         ·rename_i oS;rw[if_pos oS];split at h
          ·obtain⟨r1,h1,h2⟩:=fZ.1 h
           exact fZ.2 ⟨r1,oR P ih ii n (n+1) (by omega) _ _ _ h1,h2⟩
          ·cases h
         ·cases h
        ·cases h
      | none =>
        simp only[hq] at h;simp only
        by_cases hu:xs.any uB=true
        ·rw[if_pos hu] at h;cases h
        ·rw[if_neg hu] at h ⊢;unfold D9 at h ⊢
         split at h
         ·split at h
          ·rename_i oS;rw[if_pos oS];split at h
           ·obtain⟨r1,h1,h2⟩:=fZ.1 h
            exact fZ.2 ⟨r1,oR P ih ii n (n+1) (by omega) _ _ _ h1,h2⟩
           ·cases h
          ·cases h
         ·cases h
   ·rw[Pl] at h ⊢;unfold E0 at h ⊢
    split at h
    ·split at h
     ·rename_i oS;rw[if_pos oS];split at h
      ·obtain⟨r1,h1,h2⟩:=fZ.1 h
       exact fZ.2 ⟨r1,oR P ih ii n (n+1) (by omega) _ _ _ h1,h2⟩
      ·cases h
     ·cases h
    ·cases h
theorem BS (n:Nat):vZ (Oz P n) (Oz P (n+1)):=(Uh P n).1
theorem BT (n:Nat):BO (Ym P n) (Ym P (n+1)):=(Uh P n).2
theorem De {n m:Nat} (h:n≤m):vZ (Oz P n) (Oz P m):=fun g xs r hr =>
 Yf (g:=fun n=>Oz P n g xs) (fun n r=>BS P n g xs r) h hr
theorem Df {n m:Nat} (h:n≤m):BO (Ym P n) (Ym P m):=fun g xs st r hr =>
 Yf (g:=fun n=>Ym P n g xs st) (fun n r=>BT P n g xs st r) h hr
noncomputable def aB (f:Nat) (xs:List AV):Option AV:=lJ fun n=>Oz P n f xs
noncomputable def pR (f:Nat) (xs:List AV) (st:St):Option (AV × St):=lJ fun n=>Ym P n f xs st
noncomputable def xE (bi:Bool) (x:Code) (st:St):Option (Ex × St):=lJ fun n=>uY P bi (Oz P n) (Ym P n) n x st
theorem tQ {f:Nat} {xs:List AV} {r:AV}:aB P f xs=some r↔∃n,Oz P n f xs=some r:=KX (fun n r=>BS P n f xs r) r
theorem BU {f:Nat} {xs:List AV} {st:St} {r:AV × St}:pR P f xs st=some r↔∃n,Ym P n f xs st=some r:=KX (fun n r=>BT P n f xs st r) r
theorem gR {x:Code} {st:St} {r:Ex × St}:xE P bi x st=some r↔∃n m,uY P bi (Oz P n) (Ym P n) m x st=some r:=by
 unfold xE;rw[KX (fun n r=>oR P (BS P n) (BT P n) n (n+1) (by omega) x st r)]
 constructor
 ·rintro⟨n,h⟩;exact⟨n,n,h⟩
 ·rintro⟨n,m,h⟩
  exact⟨max n m,oR P (De P (Nat.le_max_left n m)) (Df P (Nat.le_max_left n m)) m _ (Nat.le_max_right n m) x st r h⟩
theorem AS (hm:P.follows .mixedOrders=true) (hx:HW P) {f:Nat} {xs:List AV} {r:AV} (h:aB P f xs=some r):Jd P f xs r:=by
 obtain⟨n,hn⟩:=(tQ P).1 h
 exact (aAV hm hx n f xs r hn).2
theorem aDF (n:Nat):BO (Ym P n) (pR P):=fun g xs st r h=>(BU P).2 ⟨n,h⟩
theorem aAW (n:Nat):vZ (Oz P n) (aB P):=fun g xs r h=>(tQ P).2 ⟨n,h⟩
theorem LA {β:Type} {g:Nat} {xs:List AV} {f:AV→Option β} {r:β} (h:cT (aB P g xs) f=some r):∃n,cT (Oz P n g xs) f=some r:=by
 obtain⟨a,h1,h2⟩:=fZ.1 h
 obtain⟨n,hn⟩:=(tQ P).1 h1
 exact⟨n,fZ.2 ⟨a,hn,h2⟩⟩
theorem Gp {g:Nat} {args:List AV} {st:St} {dst:Option Nat} {e:rX} (h:aO (aB P) g args st dst=some e):∃n,aO (Oz P n) g args st dst=some e:=by
 unfold aO at h ⊢
 split at h
 ·rename_i hf;obtain⟨n,hn⟩:=LA P h
  exact⟨n,by rw[if_pos hf];exact hn⟩
 ·rename_i hf;split at h
  ·rename_i xs KG;obtain⟨n,hn⟩:=LA P h
   exact⟨n,by rw[if_neg hf];exact hn⟩
  ·cases h
theorem YH {g:Nat} {args:List AV} {st:St} {dst:Option Nat} {e:rX} (h:lN (aB P) g args st dst=some e):∃n,lN (Oz P n) g args st dst=some e:=by
 unfold lN at h ⊢
 split at h
 ·rename_i s k rest;split at h
  ·rename_i e0 sz n cs hh;split at h
   ·rename_i hc;simp only[hh,if_pos hc];cases hr:aB P g (.uniq e0 sz n cs :: rest) with
    | none=>simp[hr] at h
    | some r =>
      obtain⟨m,hm⟩:=(tQ P).1 hr
      exact⟨m,by rw[hm];rw[hr] at h;exact h⟩
   ·cases h
  ·cases h
 ·split at h
  ·rename_i hc;simp only[if_pos hc];exact Gp P h
  ·cases h
theorem RL {g:Nat} {args:List AV} {st:St} {dst:Option Nat} {e:rX} (h:fG (aB P) g args st dst=some e):∃n,fG (Oz P n) g args st dst=some e:=by
 unfold fG at h ⊢
 split at h
 ·rename_i s k hk;split at h
  ·rename_i oS;simp only[if_pos oS];split at h
   ·rename_i xs KG;exact LA P h
   ·cases h
  ·cases h
 ·rename_i hk;obtain⟨n,hn⟩:=Gp P h
  exact⟨n,hn⟩
theorem K9 {o:Oper} {st:St} {e:rX} (h:dP P (aB P) o st=some e):∃n,dP P (Oz P n) o st=some e:=by
 obtain⟨dst,op,type,pos,after,guard⟩:=o
 cases op
 case call cl =>
  simp only[dP] at *
  unfold iS at *
  split at h
  ·unfold nY at h ⊢
   split at h
   ·split at h
    ·rename_i hm;obtain⟨n,hn⟩:=YH P h
     exact⟨n,by simp only[hm,if_true];exact hn⟩
    ·rename_i hm;split at h
     ·rename_i hm2;obtain⟨n,hn⟩:=RL P h
      exact⟨n,by rw[if_neg hm,if_pos hm2];exact hn⟩
     ·rename_i hm2;obtain⟨n,hn⟩:=Gp P h
      exact⟨n,by rw[if_neg hm,if_neg hm2];exact hn⟩
   ·split at h
    ·exact Gp P h
    ·cases h
  all_goals exact⟨0,h⟩
 case makeMap T r=>cases r<;>exact⟨0,h⟩
 all_goals exact⟨0,h⟩
theorem aAX {ops:Array Oper} {o:Oper} {st s:St} (h:cH P (aB P) ops o st=some s):∃n,cH P (Oz P n) ops o st=some s:=by
 unfold cH at *
 split at h
 ·split at h
  ·rename_i b hg hb;cases h1:dP P (aB P) o st with
   | none=>simp[h1] at h
   | some e =>
     obtain⟨n,hn⟩:=K9 P h1
     refine⟨n, ?_⟩
     rw[if_pos hb,hn];rw[h1] at h;exact h
  ·rename_i b hg hb;exact⟨0,by rw[if_neg hb];exact h⟩
 ·cases h
theorem L1 {ops:Array Oper} {o:Oper} {st s:St} (h:gU P bi (aB P) (pR P) ops o st=some s):∃n,gU P bi (Oz P n) (Ym P n) ops o st=some s:=by
 unfold gU at h ⊢
 cases hg:(if bi=true then Gv o else none) with
 | none =>
   simp only[hg] at h ⊢;exact aAX P h
 | some ga =>
   obtain⟨g,args⟩:=ga
   simp only[hg] at h ⊢;cases hgv:gv ops st o.guard with
   | none=>simp[hgv] at h
   | some t =>
     simp only[hgv] at h ⊢;cases t with
     | false=>exact⟨0,h⟩
     | true =>
       simp only[if_true] at h ⊢;cases h1:pR P g (args.map st.ev) st with
       | none=>simp[h1] at h
       | some r =>
         obtain⟨n,hn⟩:=(BU P).1 h1
         refine⟨n, ?_⟩
         rw[h1] at h;rw[hn];exact h
theorem BV {ops:Array Oper}:∀(l:List Oper) {st s:St},mK P bi (aB P) (pR P) ops l st=some s→∃n,mK P bi (Oz P n) (Ym P n) ops l st=some s
 | [],st,s,h=>⟨0,h⟩
 | o :: l,st,s,h=>by
   simp only[mK] at *
   obtain⟨s1,h1,h2⟩:=fZ.1 h
   obtain⟨n,hn⟩:=L1 P h1
   obtain⟨m,hm⟩:=BV l h2
   exact⟨max n m,fZ.2 ⟨s1,BR P (De P (Nat.le_max_left n m)) (Df P (Nat.le_max_left n m)) hn,Cj P (De P (Nat.le_max_right n m)) (Df P (Nat.le_max_right n m)) l hm⟩⟩
theorem Rm {cc:Nat→List AV→Option AV} {ii:Nat→List AV→St→Option (AV × St)} {ops:Array Oper}:∀(l:List Oper) (st:St),mK P false cc ii ops l st=Pg P cc ops l st
 | [],st=>rfl
 | o :: l,st=>by
   have e:∀s,gU P false cc ii ops o s=cH P cc ops o s:=fun s=>rfl
   unfold mK Pg;rw[e];congr 1
   funext s
   exact Rm l s
theorem RM (st:St):xE P bi .skip st=some (.normal,st):=(gR P).2 ⟨0,1,rfl⟩
theorem RN (id:Nat) (st:St):xE P bi (.exit id) st=some (.exit id,st):=(gR P).2 ⟨0,1,rfl⟩
theorem B9 (st:St):xE P bi .ret st=some (.ret,st):=(gR P).2 ⟨0,1,rfl⟩
theorem BW (id:Nat) (ops:Array Oper) (d:Bool) (st:St):xE P bi (.region id ops d) st=cT (mK P bi (aB P) (pR P) ops ops.toList st) fun s=>if bi=true∧¬qG ops s (Ext.dyn id ops.size (sI ops)) then none else some (.normal,s):=by
 apply Option.ext
 intro r;rw[gR,fZ];constructor
 ·rintro⟨n,m,h⟩
  cases m with
  | zero=>simp[uY] at h
  | succ m =>
    simp only[uY] at h;obtain⟨s1,h1,h2⟩:=fZ.1 h
    exact⟨s1,Cj P (aAW P n) (aDF P n) _ h1,h2⟩
 ·rintro⟨s1,h1,h2⟩
  obtain⟨n,hn⟩:=BV P _ h1
  exact⟨n,1,by simp only[uY];exact fZ.2 ⟨s1,hn,h2⟩⟩
def BX (r:Ex × St) (k:St→Option (Ex × St)):Option (Ex × St) :=
 match r.1 with
 | .normal=>k r.2
 | e=>some (e,r.2)
theorem JO (a b:Code) (st:St):xE P bi (.seq a b) st=cT (xE P bi a st) fun r=>BX r (xE P bi b):=by
 apply Option.ext
 intro r;rw[gR,fZ];constructor
 ·rintro⟨n,m,h⟩
  cases m with
  | zero=>simp[uY] at h
  | succ m =>
    simp only[uY] at h;obtain⟨⟨e1,s1⟩,h1,h2⟩:=fZ.1 h
    refine⟨(e1,s1),(gR P).2 ⟨n,m,h1⟩, ?_⟩
    cases e1 with
    | normal=>exact (gR P).2 ⟨n,m,h2⟩
    | _=>exact h2
 ·rintro⟨⟨e1,s1⟩,h1,h2⟩
  obtain⟨n1,m1,h1⟩:=(gR P).1 h1
  cases e1 with
  | normal =>
    obtain⟨n2,m2,h2⟩:=(gR P).1 h2
    refine⟨max n1 n2,max m1 m2+1, ?_⟩
    simp only[uY];exact fZ.2 ⟨(.normal,s1),oR P (De P (Nat.le_max_left _ _)) (Df P (Nat.le_max_left _ _)) _ _ (Nat.le_max_left _ _) _ _ _ h1,oR P (De P (Nat.le_max_right _ _)) (Df P (Nat.le_max_right _ _)) _ _ (Nat.le_max_right _ _) _ _ _ h2⟩
  | exit id=>exact⟨n1,m1+1,by simp only[uY];exact fZ.2 ⟨(.exit id,s1),h1,h2⟩⟩
  | ret=>exact⟨n1,m1+1,by simp only[uY];exact fZ.2 ⟨(.ret,s1),h1,h2⟩⟩
theorem RO (b:Code) (st:St):xE P bi (.loop b) st=cT (xE P bi b st) fun r=>BX r (xE P bi (.loop b)):=by
 apply Option.ext
 intro r;rw[gR,fZ];constructor
 ·rintro⟨n,m,h⟩
  cases m with
  | zero=>simp[uY] at h
  | succ m =>
    simp only[uY] at h;obtain⟨⟨e1,s1⟩,h1,h2⟩:=fZ.1 h
    refine⟨(e1,s1),(gR P).2 ⟨n,m,h1⟩, ?_⟩
    cases e1 with
    | normal=>exact (gR P).2 ⟨n,m,h2⟩
    | _=>exact h2
 ·rintro⟨⟨e1,s1⟩,h1,h2⟩
  obtain⟨n1,m1,h1⟩:=(gR P).1 h1
  cases e1 with
  | normal =>
    obtain⟨n2,m2,h2⟩:=(gR P).1 h2
    refine⟨max n1 n2,max m1 m2+1, ?_⟩
    simp only[uY];exact fZ.2 ⟨(.normal,s1),oR P (De P (Nat.le_max_left _ _)) (Df P (Nat.le_max_left _ _)) _ _ (Nat.le_max_left _ _) _ _ _ h1,oR P (De P (Nat.le_max_right _ _)) (Df P (Nat.le_max_right _ _)) _ _ (Nat.le_max_right _ _) _ _ _ h2⟩
  | exit id=>exact⟨n1,m1+1,by simp only[uY];exact fZ.2 ⟨(.exit id,s1),h1,h2⟩⟩
  | ret=>exact⟨n1,m1+1,by simp only[uY];exact fZ.2 ⟨(.ret,s1),h1,h2⟩⟩
theorem IF (id:Nat) (b:Code) (st:St):xE P bi (.block id b) st=cT (xE P bi b st) fun r=>some (r.1.inBlock id,r.2):=by
 apply Option.ext
 intro r;rw[gR,fZ];constructor
 ·rintro⟨n,m,h⟩
  cases m with
  | zero=>simp[uY] at h
  | succ m =>
    simp only[uY] at h;obtain⟨r1,h1,h2⟩:=fZ.1 h
    exact⟨r1,(gR P).2 ⟨n,m,h1⟩,h2⟩
 ·rintro⟨r1,h1,h2⟩
  obtain⟨n1,m1,h1⟩:=(gR P).1 h1
  exact⟨n1,m1+1,by simp only[uY];exact fZ.2 ⟨r1,h1,h2⟩⟩
theorem RP (c:Operand) (a b:Code) (st:St) {t:Bool} (hc:st.ev c=.v (.bool t)):xE P bi (.cond c a b) st=if t=true then xE P bi a st else xE P bi b st:=by
 apply Option.ext
 intro r;rw[gR];constructor
 ·rintro⟨n,m,h⟩
  cases m with
  | zero=>simp[uY] at h
  | succ m =>
    simp only[uY,hc] at h;split at h
    ·rename_i hb;rw[if_pos hb];exact (gR P).2 ⟨n,m,h⟩
    ·rename_i hb;rw[if_neg hb];exact (gR P).2 ⟨n,m,h⟩
 ·intro h;split at h
  ·rename_i hb;obtain⟨n,m,h⟩:=(gR P).1 h
   exact⟨n,m+1,by simp only[uY,hc];rw[if_pos hb];exact h⟩
  ·rename_i hb;obtain⟨n,m,h⟩:=(gR P).1 h
   exact⟨n,m+1,by simp only[uY,hc];rw[if_neg hb];exact h⟩
noncomputable def Aa (x:Code) (st:St):Option (Ex × St):=xE P false x st
theorem C0 {x:Code} {st:St} {r:Ex × St}:Aa P x st=some r↔∃n m,uY P false (Oz P n) (Ym P n) m x st=some r:=gR P
theorem En (st:St):Aa P .skip st=some (.normal,st):=RM P st
theorem Eo (id:Nat) (st:St):Aa P (.exit id) st=some (.exit id,st):=RN P id st
theorem Kv (st:St):Aa P .ret st=some (.ret,st):=B9 P st
theorem wA (id:Nat) (ops:Array Oper) (d:Bool) (st:St):Aa P (.region id ops d) st=cT (Pg P (aB P) ops ops.toList st) fun s=>some (.normal,s):=by
 rw[← Rm P (ii:=pR P)];have h:=BW P (bi:=false) id ops d st
 simp only[Bool.false_eq_true,false_and,if_false] at h;exact h
theorem Kw (a b:Code) (st:St):Aa P (.seq a b) st=cT (Aa P a st) fun r=>BX r (Aa P b):=JO P a b st
theorem Ic (b:Code) (st:St):Aa P (.loop b) st=cT (Aa P b st) fun r=>BX r (Aa P (.loop b)):=RO P b st
theorem zM (id:Nat) (b:Code) (st:St):Aa P (.block id b) st=cT (Aa P b st) fun r=>some (r.1.inBlock id,r.2):=IF P id b st
theorem aAY (c:Operand) (a b:Code) (st:St) {t:Bool} (hc:st.ev c=.v (.bool t)):Aa P (.cond c a b) st=if t=true then Aa P a st else Aa P b st:=RP P c a b st hc
noncomputable def Bi (f:Nat) (fn:Func) (r:Ex × St):Option AV :=
 match r.1 with
 | .exit _=>none
 | _=>jT P f fn r.2
def bK (fn:Func):Bool:=sV fn && (match fn.body with|some c=>!oA c|none=>true)
theorem Mp {xs:List AV} (h:xs.any uB=false):uC xs=none:=by
 cases xs with
 | nil=>rfl
 | cons x xs =>
   cases x<;>first|rfl|simp[uB] at h
noncomputable def X3 (fn:Func) (r:Ex × St):Option AV :=
 match r.1 with
 | .exit _=>none
 | _=>Kg P fn r.2
theorem OZ {f:Nat} {fn:Func} {c:Code} (hf:P.funcs[f]? = some fn) (hb:fn.body=some c) (oS:sV fn=true) (e sz m:Nat) (cs xs:List AV) (hx:Ext.ext f (.uniq e sz m cs :: xs)=none) :
 aB P f (.uniq e sz m cs :: xs)=cT (xE P (oA c) c (St.tH e sz m cs xs)) (X3 P fn):=by
 apply Option.ext
 intro r;rw[tQ,fZ];have hq:uC (.uniq e sz m cs :: xs)=some (e,sz,m,cs,xs):=rfl
 constructor
 ·rintro⟨n,h⟩
  cases n with
  | zero=>rw[Yn,hx] at h;cases h
  | succ n =>
    simp only[zV,hx,hq,runM,hf,oS,hb,if_true] at h;obtain⟨r1,h1,h2⟩:=fZ.1 h
    exact⟨r1,(gR P).2 ⟨n,n,h1⟩,h2⟩
 ·rintro⟨r1,h1,h2⟩
  obtain⟨n,m',h1⟩:=(gR P).1 h1
  refine⟨max n m'+1, ?_⟩
  simp only[zV,hx,hq,runM,hf,oS,hb,if_true];exact fZ.2 ⟨r1,oR P (De P (Nat.le_max_left _ _)) (Df P (Nat.le_max_left _ _)) _ _ (Nat.le_max_right _ _) _ _ _ h1,h2⟩
theorem RQ {f:Nat} {fn:Func} {c:Code} (hf:P.funcs[f]? = some fn) (hb:fn.body=some c) (oS:sV fn=true) (xs:List AV) (hx:Ext.ext f xs=none) (hu:xs.any uB=false):aB P f xs=cT (xE P (oA c) c (St.init xs)) (Bi P f fn):=by
 apply Option.ext
 intro r;rw[tQ,fZ];constructor
 ·rintro⟨n,h⟩
  cases n with
  | zero=>rw[Yn,hx] at h;cases h
  | succ n =>
    simp only[zV,hx,Mp hu,hu,D9,hf,oS,hb,if_true] at h;obtain⟨r1,h1,h2⟩:=fZ.1 h
    exact⟨r1,(gR P).2 ⟨n,n,h1⟩,h2⟩
 ·rintro⟨r1,h1,h2⟩
  obtain⟨n,m,h1⟩:=(gR P).1 h1
  refine⟨max n m+1, ?_⟩
  simp only[zV,hx,Mp hu,hu,D9,hf,oS,hb,if_true];exact fZ.2 ⟨r1,oR P (De P (Nat.le_max_left _ _)) (Df P (Nat.le_max_left _ _)) _ _ (Nat.le_max_right _ _) _ _ _ h1,h2⟩
theorem Qp {f:Nat} {fn:Func} {c:Code} (hf:P.funcs[f]? = some fn) (hb:fn.body=some c) (oS:bK fn=true) (xs:List AV) (hx:Ext.ext f xs=none) (hu:xs.any uB=false):aB P f xs=cT (Aa P c (St.init xs)) (Bi P f fn):=by
 simp only[bK,hb,Bool.and_eq_true,Bool.not_eq_true'] at oS;rw[RQ P hf hb oS.1 xs hx hu,oS.2];rfl
noncomputable def aHs (fn:Func) (r:Ex × St):Option (AV × St) :=
 match r.1 with
 | .exit _=>none
 | _=>(Bp P fn r.2).map fun x=>(x,r.2)
theorem Ce {f:Nat} {fn:Func} {c:Code} (hf:P.funcs[f]? = some fn) (hb:fn.body=some c) (oS:GF true fn=true) (xs:List AV) (st:St):pR P f xs st=cT (xE P true c ((St.init xs).back st)) (aHs P fn):=by
 apply Option.ext
 intro r;rw[BU,fZ];constructor
 ·rintro⟨n,h⟩
  cases n with
  | zero=>rw[R5] at h;cases h
  | succ n =>
    simp only[Pl,E0,hf,oS,hb,if_true] at h;obtain⟨r1,h1,h2⟩:=fZ.1 h
    exact⟨r1,(gR P).2 ⟨n,n,h1⟩,h2⟩
 ·rintro⟨r1,h1,h2⟩
  obtain⟨n,m,h1⟩:=(gR P).1 h1
  refine⟨max n m+1, ?_⟩
  simp only[Pl,E0,hf,oS,hb,if_true];exact fZ.2 ⟨r1,oR P (De P (Nat.le_max_left _ _)) (Df P (Nat.le_max_left _ _)) _ _ (Nat.le_max_right _ _) _ _ _ h1,h2⟩
end
end Go.Ab
end
