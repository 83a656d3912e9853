/-
  Part 4 of the proof: an evaluator of programs, its soundness, and what functions of this program compute.
-/
import Derived.Test.YtmcjkemalibacaaGreatK3
set_option linter.all false
set_option maxRecDepth 20000
set_option maxHeartbeats 40000000
section
namespace Go.Ab
open Classical
variable [Ext]
def Yi (ops:Array Oper) (acc:Array Nat):Prop :=
 ∀j o,j<acc.size→ops[j]? = some o→∀k,(acc.getD j 0).testBit k=true→∃e∈o.after,Region.binds .any e=true∧(e.on=k∨(acc.getD e.on 0).testBit k=true)
theorem EY (acc:Array Nat) (k:Nat):∀(l:List Edge) (s:Nat),(l.foldl (fun s e=>if Region.binds .any e=true then s ||| 2 ^ e.on ||| acc.getD e.on 0 else s) s).testBit k=true →
 s.testBit k=true∨∃e∈l,Region.binds .any e=true∧(e.on=k∨(acc.getD e.on 0).testBit k=true)
 | [],s,h=>.inl h
 | e :: l,s,h=>by
   simp only[List.foldl_cons] at h;rcases EY acc k l _ h with h|⟨e',Ad,h⟩
   ·split at h
    ·rename_i hb;simp only[Nat.testBit_or,Bool.or_eq_true] at h;rcases h with (h|h)|h
     ·exact .inl h
     ·rw[Nat.testBit_two_pow] at h;exact .inr ⟨e,by simp,hb,.inl (by simpa using h)⟩
     ·exact .inr ⟨e,by simp,hb,.inr h⟩
    ·exact .inl h
   ·exact .inr ⟨e',by simp[Ad],h⟩
theorem EZ {α:Type} (n:Nat) (k:Nat→α):forced n k=k n:=by cases n<;>rfl
theorem Yj (ops:Array Oper):∀(l:List Oper) (acc:Array Nat),(∀i o,l[i]? = some o→ops[acc.size+i]? = some o)→Yi ops acc→Yi ops (DB l acc)
 | [],acc,_,h=>h
 | o :: l,acc,hl,h=>by
   unfold DB;rw[EZ];refine Yj ops l _ (fun i o' ho'=>?_) ?_
   ·have:=hl (i+1) o' (by simpa using ho')
    simp only[Array.size_push];rw[← this];congr 1
    omega
   ·intro j oj hj hoj k hk;have qH:∀x,(acc.getD x 0).testBit k=true→((acc.push (SJ acc o)).getD x 0).testBit k=true:=fun x hx=>by
     have bA:x<acc.size:=by
      rcases Nat.lt_or_ge x acc.size with h'|h'
      ·exact h'
      ·simp[Array.getElem?_eq_none h'] at hx
     simp only[Array.getD_eq_getD_getElem?,Array.getElem?_push_lt bA] at hx ⊢;simpa [bA] using hx
    rcases Nat.lt_or_ge j acc.size with bA|hge
    ·have UN:(acc.getD j 0).testBit k=true:=by
      simp only[Array.getD_eq_getD_getElem?,Array.getElem?_push_lt bA] at hk ⊢;simpa [bA] using hk
     obtain⟨e,he,hb,hor⟩:=h j oj bA hoj k UN
     exact⟨e,he,hb,hor.imp id (qH _)⟩
    ·have hje:j=acc.size:=by simp only[Array.size_push] at hj;omega
     subst hje;have ho:=hl 0 o (by simp)
     rw[Nat.add_zero,hoj] at ho;cases ho
     have UN:(SJ acc o).testBit k=true:=by simpa using hk
     rcases EY acc k _ 0 UN with h0|⟨e,he,hb,hor⟩
     ·simp at h0
     ·exact⟨e,by simpa using he,hb,hor.imp id (qH _)⟩
theorem Oq {ops:Array Oper} {dy:List (Nat × Nat)} {b:Array Nat} {j:Nat} {oj:Oper}:∀(l:List Oper) (i0:Nat),Mv ops dy b j oj l i0=true→∀i oi,l[i]? = some oi→i0+i<j→(b.getD j 0).testBit (i0+i)=true∨(XP oi=true∧XP oj=true∧(sJ ops oi oj=true∨((i0+i,j)∈dy∧FK ops b (i0+i) oi j oj=true)))
 | [],_,_,i,oi,h,_=>by simp at h
 | o :: l,i0,h,i,oi,ho,bA=>by
   unfold Mv at h;simp only[Bool.and_eq_true,Bool.or_eq_true,decide_eq_true_eq] at h;cases i with
   | zero =>
     simp at ho
     subst ho;rcases h.1 with (h|h)|⟨⟨n1,n2⟩,h⟩
     ·omega
     ·exact .inl (by simpa using h)
     ·exact .inr ⟨n1,n2,h.imp id fun h=>⟨by simpa using h.1,by simpa using h.2⟩⟩
   | succ i =>
     have:=Oq l (i0+1) h.2 i oi (by simpa using ho) (by omega)
     rw[show i0+(i+1)=i0+1+i by omega]
     exact this
theorem Hv {ops:Array Oper} {dy:List (Nat × Nat)} {b:Array Nat}:∀(l:List Oper) (j0:Nat),FL ops dy b l j0=true→∀j oj,l[j]? = some oj →
 (∀e∈oj.after,Region.binds .any e=true→e.on<j0+j)∧Mv ops dy b (j0+j) oj ops.toList 0=true
 | [],_,_,j,oj,h=>by simp at h
 | o :: l,j0,h,j,oj,ho=>by
   unfold FL at h;simp only[Bool.and_eq_true] at h;obtain⟨⟨h1,h2⟩,h3⟩:=h
   cases j with
   | zero =>
     simp at ho
     subst ho;refine⟨fun e he hb=>?_,by simpa using h2⟩
     have:=List.all_eq_true.1 h1 e (by simpa using he)
     simpa [hb] using this
   | succ j =>
     have:=Hv l (j0+1) h3 j oj (by simpa using ho)
     rw[show j0+(j+1)=j0+1+j by omega]
     exact this
structure Df (ops:Array Oper) (dy:List (Nat × Nat)) (b:Array Nat):Prop where
 aMy:Yi ops b
 size:b.size=ops.size
 lt:∀j oj,ops[j]? = some oj→∀e∈oj.after,Region.binds .any e=true→e.on<j
 apart:∀i j oi oj,i<j→ops[i]? = some oi→ops[j]? = some oj→(b.getD j 0).testBit i=true∨(XP oi=true∧XP oj=true∧(sJ ops oi oj=true∨((i,j)∈dy∧FK ops b i oi j oj=true)))
theorem Yk:∀(l:List Oper) (acc:Array Nat),(DB l acc).size=acc.size+l.length
 | [],acc=>rfl
 | o :: l,acc=>by
   unfold DB;rw[EZ,Yk l];simp
   omega
theorem OK {ops:Array Oper} {dy:List (Nat × Nat)} (h:Vn ops dy=true):∃b,Df ops dy b:=by
 unfold Vn at h;refine⟨_,Yj ops ops.toList #[] (fun i o ho=>by simpa using ho) (fun j o hj=>by simp at hj),by rw[Yk];simp,fun j oj hoj=>?_,fun i j oi oj hij X8 hoj=>?_⟩
 ·have:=(Hv _ 0 h j oj (by simpa using hoj)).1
  simpa using this
 ·have:=(Hv _ 0 h j oj (by simpa using hoj)).2
  simp only[Nat.zero_add] at this;have:=Oq _ 0 this i oi (by simpa using X8) (by omega)
  simpa using this
section
variable {P:Program} {call:Nat→List AV→Option AV} {ops:Array Oper} {nt:Nat} {Q:Exit→Act→World→Prop}
theorem OL {h0:Nat→Obj→Prop} {w0:World} {F:Gb} {ρ:Nat→Nat→Value} {st:St} {a:Act} {w:World} (S:kZ F h0 w0 nt ρ st a w) {o:Oper} {b:Bool} (h:gv ops st o.guard=some b):Region.wanted o (yielded ops a.tmps)=b:=by
 unfold gv at h;unfold Region.wanted;cases hg:o.guard with
 | none=>simp[hg] at h;subst h;rfl
 | some jw =>
   obtain⟨j,want⟩:=jw
   simp only[hg] at h;simp only
   cases hd:(ops[j]?).bind (·.dst) with
   | none =>
     simp[hd] at h
     subst h;simp[yielded,hd]
   | some d =>
     simp only[hd] at h;split at h
     ·rename_i x hx;have hr:=S.env d
      rw[hx] at hr;have hv:=iN hr
      rcases Nat.lt_or_ge d a.tmps.size with bA|hge
      ·have hv':a.tmps[d]? = some x:=by
        simp[bA] at hv ⊢
        exact hv
       simp only[yielded,hd,Option.bind_some,hv'];split at h
       ·simp only[Option.some.injEq] at h;rw[← h];simp
       ·simp only[Option.some.injEq] at h;subst h;rename_i gW;cases x<;>first|rfl|exact absurd rfl (gW _)
      ·have hn:a.tmps[d]? = none:=Array.getElem?_eq_none hge
       have hu:x=undef:=by simpa [hn] using hv.symm
       subst hu;simp[undef] at h
       subst h;simp[yielded,hd,hn]
     ·cases h
theorem VI {h0:Nat→Obj→Prop} {w0:World} {F:Gb} {ρ:Nat→Nat→Value} {st st':St} {a:Act} {w:World} {K:Act→World→Prop} (S:kZ F h0 w0 nt ρ st a w) (kM:qY P call) {i:Nat} {o:Oper}
 (hi:ops[i]? = some o) (hd:∀d,o.dst=some d→d<nt) (h:cF P call ops o st=some st')
 (hK:∀oD a' w',kZ F h0 w0 nt oD st' a' w'→K a' w'):wpOp P ops Q i K a w:=by
 unfold wpOp;simp only[hi];unfold cF at h;cases hg:gv ops st o.guard with
 | none=>simp[hg] at h
 | some b =>
   rw[OL S hg];simp only[hg] at h;cases b with
   | true =>
     simp only[if_true] at h ⊢;cases he:dI P call o st with
     | none=>simp[he] at h
     | some e =>
       simp only[he,Option.map_some,Option.some.injEq] at h;subst h;exact .inl (Tc S kM he hd hK)
   | false =>
     simp only[Bool.false_eq_true,if_false,Option.some.injEq] at h ⊢;subst h;exact hK ρ _ w (S.put o.dst hd (.v _))
theorem HX {o:Oper} {a:Act} {w:World} {K:Act→World→Prop} (h:o.wp P a w K fun _ _ _=>False):∃a' w',K a' w':=by
 unfold Oper.wp at h;generalize (execOp a.eval o).run P w=r at h
 have hlet:¬LetsOut (fun _ _ _=>False):=by rintro⟨_,_,h⟩;exact h
 cases r with
 | ok n w' =>
   cases n<;>simp only[Oper.upon] at h<;>(try exact⟨_,_,h⟩)<;>(try exact h.elim)
   ·obtain⟨e,w2,fr,hR,_⟩:=h []
    cases e with
    | returned v=>exact⟨_,_,hR⟩
    | panicked c=>exact hR.elim
    | outgrown=>exact absurd hR hlet
   ·obtain⟨v,w2,hR,_⟩:=h default []
    exact⟨_,_,hR⟩
 | halt x w'=>cases x<;>simp only[Oper.upon] at h
def Valid (nt:Nat) (st:St):Prop:=∃(F:Gb) (h0:Nat→Obj→Prop) (w0:World) (ρ:Nat→Nat→Value) (a:Act) (w:World),kZ F h0 w0 nt ρ st a w
theorem Valid.ids {st:St} (h:Valid nt st):∀t,mP st.aP (st.env t):=by
 obtain⟨F,h0,w0,ρ,a,w,S⟩:=h
 exact fun t=>⟨ctx h0 w0 ρ st w,_,rfl,S.env t⟩
theorem Valid.hp {st:St} (h:Valid nt st):BJ st:=by
 obtain⟨F,h0,w0,ρ,a,w,S⟩:=h
 intro s g cs he c hc;obtain⟨_,_,b,arr,T,_,_,_,Ag⟩:=S.sK s g _ he
 obtain⟨i,hi,rfl⟩:=List.getElem_of_mem hc
 have hl:=Ag.len
 exact⟨ctx h0 w0 ρ st w,arr.toList[i]'(by omega),rfl,Ag.rel i _ _ (by simp[hi]) (by simp)⟩
theorem Valid.step {st st':St} (h:Valid nt st) (kM:qY P call) {o:Oper} (hd:∀d,o.dst=some d→d<nt) (he:cF P call ops o st=some st'):Valid nt st':=by
 obtain⟨F,h0,w0,ρ,a,w,S⟩:=h
 unfold cF at he;cases hg:gv ops st o.guard with
 | none=>simp[hg] at he
 | some b =>
   simp only[hg] at he;cases b with
   | true =>
     simp only[if_true] at he;cases hee:dI P call o st with
     | none=>simp[hee] at he
     | some e =>
       simp only[hee,Option.map_some,Option.some.injEq] at he;subst he;obtain⟨a',w',oD,S'⟩:=HX (Tc (Q:=fun _ _ _=>False) (K:=fun a' w'=>∃oD,kZ F h0 w0 nt oD (e.apply st) a' w') S kM hee hd (fun oD a' w' h=>⟨oD,h⟩))
       exact⟨F,h0,w0,oD,a',w',S'⟩
   | false =>
     simp only[Bool.false_eq_true,if_false,Option.some.injEq] at he;subst he;exact⟨F,h0,w0,ρ,_,w,S.put o.dst hd (.v _)⟩
theorem vR {b:Array Nat} {i a:Nat} {aS:List Nat} (ha:a∈aS):∀(l:List Oper) (m0:Nat),wE b i aS l m0=true→∀m o,l[m]? = some o→o.dst=some a→(b.getD i 0).testBit (m0+m)=true
 | [],_,_,m,o,h,_=>by simp at h
 | o' :: l,m0,h,m,o,ho,hd=>by
   unfold wE at h;simp only[Bool.and_eq_true,Bool.or_eq_true] at h;cases m with
   | zero =>
     simp at ho
     subst ho;rcases h.1 with h|h
     ·rw[hd] at h;simp[ha] at h
     ·simpa using h
   | succ m =>
     have:=vR ha l (m0+1) h.2 m o (by simpa using ho) hd
     rw[show m0+(m+1)=m0+1+m by omega]
     exact this
theorem qB.mem {s:St}:∀ {l:List (Nat × Nat)},qB ops s l→∀p∈l,Vm ops s p
 | p :: l,h,q,hq=>by
   rcases List.mem_cons.1 hq with rfl|hq
   ·exact h.1
   ·exact h.2.mem q hq
structure Left (ops:Array Oper) (mC:Array Bool) (l:List Nat):Prop where
 size:mC.size=ops.size
 mem:∀j,j∈l↔j<ops.size∧mC.getD j true=false
 sorted:l.Pairwise (· < ·)
 closed:∀j o,ops[j]? = some o→mC.getD j false=true→∀e∈o.after,Region.binds .any e=true→mC.getD e.on false=true
theorem Df.aGI {dy:List (Nat × Nat)} {b:Array Nat} (D:Df ops dy b):∀(j:Nat) o,ops[j]? = some o→∀k,(b.getD j 0).testBit k=true→k<j:=by
 intro j;induction j using Nat.strongRecOn with
 | _ j ih =>
   intro o ho k hk;have hj:j<ops.size:=(Array.getElem?_eq_some_iff.1 ho).1
   obtain⟨e,he,hb,hor⟩:=D.aMy j o (by rw[D.size];exact hj) ho k hk
   have bA:=D.lt j o ho e he hb
   rcases hor with rfl|UN
   ·exact bA
   ·have hes:e.on<ops.size:=by omega
    have:=ih e.on bA _ (Array.getElem?_eq_getElem hes) k UN
    omega
theorem FB {mC:Array Bool} {j:Nat} (hj:j<mC.size):mC.getD j true=mC.getD j false:=by simp[hj]
theorem OM {dy:List (Nat × Nat)} {b:Array Nat} (D:Df ops dy b) {mC:Array Bool} {l:List Nat} (L:Left ops mC l):∀(j:Nat) o,ops[j]? = some o→(∀e∈o.after,Region.binds .any e=true→mC.getD e.on false=true) →
 ∀k,(b.getD j 0).testBit k=true→mC.getD k false=true:=by
 intro j;induction j using Nat.strongRecOn with
 | _ j ih =>
   intro o ho Kv k hk;have hj:j<ops.size:=(Array.getElem?_eq_some_iff.1 ho).1
   obtain⟨e,he,hb,hor⟩:=D.aMy j o (by rw[D.size];exact hj) ho k hk
   have hle:=Kv e he hb
   rcases hor with rfl|UN
   ·exact hle
   ·have bA:=D.lt j o ho e he hb
    have hes:e.on<ops.size:=by omega
    exact ih e.on bA _ (Array.getElem?_eq_getElem hes) (L.closed e.on _ (Array.getElem?_eq_getElem hes) hle) k UN
end
end Go.Ab
end
section
namespace Go.Ab
open Classical
variable [Ext]
section
variable {P:Program} {call:Nat→List AV→Option AV} {inl:Nat→List AV→St→Option (AV × St)} {bi:Bool} {nt:Nat} {h0:Nat→Obj→Prop} {w0:World} {F:Gb}
theorem BS {ops:Array Oper} {id:Nat} {draw:Bool} (h:codeOk bi nt (.region id ops draw)=true):(∀(j:Nat) o,ops[j]? = some o→∀d,o.dst=some d→d<nt)∧(draw=true→Vn ops (if bi=true then Ext.dyn id ops.size (rZ ops) else [])=true):=by
 simp only[codeOk,Bool.and_eq_true,Bool.or_eq_true,Bool.not_eq_true'] at h;refine⟨fun j o ho d hd=>?_,fun hdr=>h.2.resolve_left (by rw[hdr];simp)⟩
 have:=Array.all_eq_true_iff_forall_mem.1 h.1 o (Array.mem_of_getElem? ho)
 simpa [hd] using this
def Yl (P:Program) (inl:Nat→List AV→St→Option (AV × St)):Prop :=
 ∀g xs st r s',inl g xs st=some (r,s')→Ho P g ∧
  ∀(F:Gb) (h0:Nat→Obj→Prop) (w0:World) (nt:Nat) (ρ:Nat→Nat→Value) (a:Act) (w:World) (vs:Array Value) (K:Value→World→Prop),kZ F h0 w0 nt ρ st a w→lO (ctx h0 w0 ρ st w) xs vs.toList →
   (∀oD w' v,kZ F h0 w0 nt oD (st.back s') a w'→cY (ctx h0 w0 oD (st.back s') w') r v→K v w')→Calls P g vs w fun en w'=>∃v,en=.returned v∧K v w'
theorem VJ {o:Oper} {g:Nat} {args:List Operand} (h:Fk o=some (g,args)):∃c,o.op=.call c∧c.callee=.value (.func g)∧c.args.toList=args:=by
 obtain⟨dst,op,type,pos,after,guard⟩:=o
 unfold Fk at h;split at h
 ·rename_i g' args' tH qC
  split at h
  ·simp only[Option.some.injEq,Prod.mk.injEq] at h;obtain⟨rfl,rfl⟩:=h
   exact⟨_,qC,rfl,rfl⟩
  ·cases h
 ·cases h
theorem Tg {ops:Array Oper} {Q:Exit→Act→World→Prop} {ρ:Nat→Nat→Value} {st st':St} {a:Act} {w:World} {K:Act→World→Prop} (S:kZ F h0 w0 nt ρ st a w) (kM:qY P call) (Ot:Yl P inl) {i:Nat} {o:Oper}
 (hi:ops[i]? = some o) (hd:∀d,o.dst=some d→d<nt) (h:gU P bi call inl ops o st=some st')
 (hK:∀oD a' w',kZ F h0 w0 nt oD st' a' w'→K a' w'):wpOp P ops Q i K a w:=by
 unfold gU at h;split at h
 ·rename_i g args hg;have n8:Fk o=some (g,args):=by
   split at hg
   ·exact hg
   ·cases hg
  obtain⟨c,qC,hcal,wS⟩:=VJ n8
  unfold wpOp;simp only[hi];cases X3:gv ops st o.guard with
  | none=>simp[X3] at h
  | some b =>
    rw[OL S X3];simp only[X3] at h;cases b with
    | true =>
      simp only[if_true] at h ⊢;cases he:inl g (args.map st.ev) st with
      | none=>simp[he] at h
      | some r =>
        obtain⟨x,s'⟩:=r
        simp only[he,Option.map_some,Option.some.injEq] at h;subst h;refine .inl ?_
        obtain⟨⟨fn,aGE,W5,W6⟩,UZ⟩:=Ot g _ st x s' he
        have hnb:fn.body.isNone=false:=by
         cases hb:fn.body<;>simp[hb] at W6 ⊢
        have Qe : ¬ fn.name = "runtime.NumGoroutine" := by simpa using W5
        have hn2:¬fn.body=none:=by intro h;simp[h] at hnb
        have pY:(execOp a.eval o).run P w=.ok (.enter g (c.args.map a.eval)) w:=by
         simp[execOp,qC,resolve,hcal,Act.eval,Deferred.ofValue,invoke,callFunc,aGE,Qe,hn2]
        have gB:lO (ctx h0 w0 ρ st w) (args.map st.ev) (c.args.map a.eval).toList:=by
         rw[← wS];simpa using lO.map c.args.toList _ _ fun p _=>S.ev p
        unfold Oper.wp;rw[pY,Oper.upon_enter];refine (UZ F h0 w0 nt ρ a w (c.args.map a.eval) (fun v w'=>K (a.put o.dst v) w') S gB fun oD w' v S' hv=>?_).mono ?_
        ·exact hK oD _ w' (S'.put o.dst hd hv)
        ·rintro en w' ⟨v,rfl,hk⟩
         exact hk
    | false =>
      simp only[Bool.false_eq_true,if_false,Option.some.injEq] at h ⊢;subst h;exact hK ρ _ w (S.put o.dst hd (.v _))
 ·exact VI S kM hi hd h hK
theorem Ym {ops:Array Oper} (kM:qY P call) (Ot:Yl P inl) (lH:∀(j:Nat) o,ops[j]? = some o→∀d,o.dst=some d→d<nt) {Q:Exit→Act→World→Prop} {sf:St}
 (hQ:∀oD a' w',kZ F h0 w0 nt oD sf a' w'→Q .normal a' w'):∀(l:List Oper) (k:Nat) (st:St) (ρ:Nat→Nat→Value) (a:Act) (w:World),(∀(j:Nat) o,l[j]? = some o→ops[k+j]? = some o)→kZ F h0 w0 nt ρ st a w →
  mL P bi call inl ops l st=some sf→wpOps P ops Q (List.range' k l.length) a w
 | [],k,st,ρ,a,w,hl,S,h=>by
   simp only[mL,Option.some.injEq] at h;subst h;exact hQ ρ a w S
 | o :: l,k,st,ρ,a,w,hl,S,h=>by
   rw[List.length_cons,List.range'_succ,wpOps_cons];have hi:ops[k]? = some o:=hl 0 o rfl
   unfold mL at h;cases h1:gU P bi call inl ops o st with
   | none=>simp[h1,cN] at h
   | some s1 =>
     simp only[h1,cN] at h;exact Tg S kM Ot hi (lH k o hi) h1 fun oD a' w' S'=>Ym kM Ot lH hQ l (k+1) s1 oD a' w' (fun j o' hj=>by
      have:=hl (j+1) o' (by simpa using hj)
      rw[show k+1+j=k+(j+1) by omega];exact this) S' h
noncomputable def Lv (P:Program) (bi:Bool) (call:Nat→List AV→Option AV) (inl:Nat→List AV→St→Option (AV × St)) (ops:Array Oper):List Nat→St→Option St
 | [],st=>some st
 | i :: r,st =>
   match ops[i]? with
   | some o=>cN (gU P bi call inl ops o st) (Lv P bi call inl ops r)
   | none=>Lv P bi call inl ops r st
theorem Th {ops:Array Oper}:∀(l:List Oper) (k:Nat) (st:St),(∀j,l[j]? = ops[k+j]?∨l.length≤j)→mL P bi call inl ops l st=Lv P bi call inl ops (List.range' k l.length) st
 | [],k,st,h=>rfl
 | o :: l,k,st,h=>by
   have h0:=(h 0).resolve_right (by simp)
   simp only[List.getElem?_cons_zero,Nat.add_zero] at h0;simp only[mL,List.length_cons,List.range'_succ,Lv,← h0];cases gU P bi call inl ops o st with
   | none=>rfl
   | some s =>
     simp only[cN];exact Th l (k+1) s fun j=>by
      rcases h (j+1) with h|h
      ·left
       rw[show k+1+j=k+(j+1) by omega,← h]
       simp
      ·right
       simpa using h
theorem Yn {ops:Array Oper} {o:Oper} {st s:St} {a:Nat} (h:cF P call ops o st=some s) (hd:o.dst≠some a):s.env a=st.env a:=by
 rw[Fa] at h;cases he:rS P call ops o st with
 | none=>simp[he] at h
 | some e =>
   simp only[he,Option.map_some,Option.some.injEq] at h;subst h;rw[oM,(oW he).1,if_neg hd]
theorem X9 {o:Oper} (h:XP o=true):Fk o=none:=by simpa [XP] using h
theorem ON {ops:Array Oper} {o:Oper} (h:XP o=true) (st:St):gU P bi call inl ops o st=cF P call ops o st:=by
 unfold gU;rw[X9 h];cases bi<;>rfl
theorem D8 {ops:Array Oper} {o:Oper} {st s:St} {a:Nat} (h:gU P bi call inl ops o st=some s) (hd:o.dst≠some a):s.env a=st.env a:=by
 unfold gU at h;have hput:∀(s0:St) (x:AV),(s0.put o.dst x).env a=s0.env a:=fun s0 x=>by
  cases hod:o.dst with
  | none=>rfl
  | some d =>
    simp only[St.put];rw[if_neg];rintro rfl
    exact hd hod
 split at h
 ·split at h
  ·split at h
   ·simp only[Option.map_eq_some_iff] at h;obtain⟨r,_,rfl⟩:=h
    exact hput _ _
   ·simp only[Option.some.injEq] at h;subst h;exact hput _ _
  ·cases h
 ·exact Yn h hd
theorem Ou {ops:Array Oper} {a:Nat}:∀(l:List Nat) {st sf:St},(∀m∈l,∀o,ops[m]? = some o→o.dst≠some a)→Lv P bi call inl ops l st=some sf→sf.env a=st.env a
 | [],st,sf,_,h=>by
   simp only[Lv,Option.some.injEq] at h;subst h;rfl
 | i :: l,st,sf,hd,h=>by
   unfold Lv at h;cases hi:ops[i]? with
   | none=>simp only[hi] at h;exact Ou l (fun m hm=>hd m (by simp[hm])) h
   | some o =>
     simp only[hi] at h;cases h1:gU P bi call inl ops o st with
     | none=>simp[h1,cN] at h
     | some s1 =>
       simp only[h1,cN] at h;rw[Ou l (fun m hm=>hd m (by simp[hm])) h,D8 h1 (hd i (by simp) o hi)]
def ZE (ops:Array Oper) (sf:St) (rest:List Nat) (k:Nat) (ok oi:Oper):Prop :=
 sJ ops ok oi=true∨∃aS bs,gY ok=some aS∧gY oi=some bs∧Oper.apart ops ok oi=true∧Kt sf aS bs ∧
  (∀m∈rest,k≤m→∀o,ops[m]? = some o→∀a∈aS,o.dst≠some a)∧(∀m∈rest,∀o,ops[m]? = some o→∀b∈bs,o.dst≠some b)
theorem Yo {ops:Array Oper} (kM:qY P call) (lH:∀(j:Nat) o,ops[j]? = some o→∀d,o.dst=some d→d<nt) {i:Nat} {oi:Oper} (hi:ops[i]? = some oi) (l2:List Nat):∀(l1:List Nat) (st sf:St),Valid nt st→(l1++i :: l2).Pairwise (· < ·) →
 (∀k∈l1,∃ok,ops[k]? = some ok∧XP ok=true∧XP oi=true∧ZE ops sf (l1++i :: l2) k ok oi)→Lv P bi call inl ops (l1++i :: l2) st=some sf→Lv P bi call inl ops (i :: (l1++l2)) st=some sf
 | [],st,sf,_,_,_,h=>h
 | k :: l1,st,sf,hv,hs,nU,h=>by
   obtain⟨ok,rY,Qe,hn2,hak⟩:=nU k (by simp)
   have e1:=fun st=>ON (P:=P) (bi:=bi) (call:=call) (inl:=inl) (ops:=ops) Qe st
   have e2:=fun st=>ON (P:=P) (bi:=bi) (call:=call) (inl:=inl) (ops:=ops) hn2 st
   simp only[List.cons_append,Lv,rY,e1] at h;cases h1:cF P call ops ok st with
   | none=>simp[h1,cN] at h
   | some s1 =>
     simp only[h1,cN] at h;rw[List.cons_append,List.pairwise_cons] at hs;have ih:=Yo kM lH hi l2 l1 s1 sf (hv.step kM (lH k ok rY) h1) hs.2 (fun k' hk=>by
      obtain⟨ok',h1,m1,m2,h2⟩:=nU k' (by simp[hk])
      refine⟨ok',h1,m1,m2,h2.imp id ?_⟩
      rintro⟨a,a',e1,e2,e3,e4,e5,e6⟩
      exact⟨a,a',e1,e2,e3,e4,fun m hm=>e5 m (by simp only[List.cons_append];exact List.mem_cons_of_mem _ hm),fun m hm=>e6 m (by simp only[List.cons_append];exact List.mem_cons_of_mem _ hm)⟩) h
     have ih0:=ih
     simp only[Lv,hi,e2] at ih;cases h2:cF P call ops oi s1 with
     | none=>simp[h2,cN] at ih
     | some s2 =>
       simp only[h2,cN] at ih;have hcomm:∃s3,cF P call ops oi st=some s3∧cF P call ops ok s3=some s2:=by
        rcases hak with hak|⟨aS,bs,V6,e2',e3,e4,e5,e6⟩
        ·exact aCF hv.hp hak hv.ids h1 h2
        ·have w1:∀m∈i :: (l1++l2),m∈(k :: l1)++i :: l2∧k≤m:=fun m hm=>by
          have hm':m∈l1++i :: l2:=by
           simp only[List.mem_cons,List.mem_append] at hm ⊢;rcases hm with h|h|h
           ·exact .inr (.inl h)
           ·exact .inl h
           ·exact .inr (.inr h)
          exact⟨by simp only[List.cons_append];exact List.mem_cons_of_mem _ hm',Nat.le_of_lt (hs.1 m hm')⟩
         have f1:∀a∈aS,sf.env a=st.env a:=fun a ha=>by
          rw[Ou _ (fun m hm o ho=>e5 m (w1 m hm).1 (w1 m hm).2 o ho a ha) ih0,Yn h1 (e5 k (by simp) (Nat.le_refl _) ok rY a ha)]
         have f2:∀b∈bs,sf.env b=st.env b:=fun b hb=>by
          rw[Ou _ (fun m hm o ho=>e6 m (w1 m hm).1 o ho b hb) ih0,Yn h1 (e6 k (by simp) ok rY b hb)]
         have e4':Kt st aS bs:=fun a ha b hb=>by
          have:=e4 a ha b hb
          rw[f1 a ha,f2 b hb] at this;exact this
         exact X7 hv.ids V6 e2' e3 e4' h1 h2
       obtain⟨s3,h3,h4⟩:=hcomm
       simp only[List.cons_append,Lv,hi,rY,e1,e2,h3,h4,cN];exact ih
theorem Yp {ops:Array Oper} {Q:Exit→Act→World→Prop} (kM:qY P call) (Ot:Yl P inl) (lH:∀(j:Nat) o,ops[j]? = some o→∀d,o.dst=some d→d<nt) {dy:List (Nat × Nat)} {b:Array Nat} (D:Df ops dy b) {sf:St} (hsw:qB ops sf dy)
 (hQ:∀oD a' w',kZ F h0 w0 nt oD sf a' w'→Q .normal a' w'):∀(f:Nat) (l:List Nat) (mC:Array Bool) (st:St) (ρ:Nat→Nat→Value) (a:Act) (w:World),l.length=f→Left ops mC l→kZ F h0 w0 nt ρ st a w →
 Lv P bi call inl ops l st=some sf→wpAny P .any ops Q f mC a w
 | 0,l,mC,st,ρ,a,w,hf,L,S,he=>by
   have hl:=List.length_eq_zero_iff.1 hf
   subst hl;simp only[Lv,Option.some.injEq] at he;subst he;refine⟨?_,hQ ρ a w S⟩
   cases hr:Region.ready .any ops mC with
   | nil=>rfl
   | cons x xs =>
     have hx:x∈Region.ready .any ops mC:=by rw[hr];simp
     obtain⟨h1,o,ho,_⟩:=mem_ready.1 hx
     have:=(L.mem x).2 ⟨(Array.getElem?_eq_some_iff.1 ho).1,h1⟩
     simp at this
 | f+1,l,mC,st,ρ,a,w,hf,L,S,he=>by
   refine⟨fun hr=>?_,fun i hi=>?_⟩
   ·exfalso
    cases l with
    | nil=>simp at hf
    | cons i l =>
      have hil:=(L.mem i).1 (by simp)
      have:i∈Region.ready .any ops mC:=mem_ready.2 ⟨hil.2,ops[i],Array.getElem?_eq_getElem hil.1,fun e Ad hb=>by
       have bA:=D.lt i _ (Array.getElem?_eq_getElem hil.1) e Ad hb
       cases hle:mC.getD e.on false with
       | true=>rfl
       | false =>
         have U3:e.on<mC.size:=by rw[L.size];omega
         have hin:=(L.mem e.on).2 ⟨by omega,by rw[FB U3];exact hle⟩
         rcases List.mem_cons.1 hin with h|h
         ·omega
         ·have:=(List.pairwise_cons.1 L.sorted).1 _ h
          omega⟩
      rw[hr] at this;simp at this
   ·obtain⟨h1,oi,X8,Kv⟩:=mem_ready.1 hi
    have hilt:i<ops.size:=(Array.getElem?_eq_some_iff.1 X8).1
    have hil:=(L.mem i).2 ⟨hilt,h1⟩
    obtain⟨l1,l2,rfl⟩:=List.append_of_mem hil
    have hs:=L.sorted
    rw[List.pairwise_append] at hs;obtain⟨s1,s2,s3⟩:=hs
    have hno:∀m,(b.getD i 0).testBit m=true→m ∉ l1++i :: l2:=fun m h hm=>by
     have U1:=(L.mem m).1 hm
     have:=OM D L i oi X8 Kv m h
     rw[← FB (by rw[L.size];exact U1.1),U1.2] at this
     cases this
    have nU:∀k∈l1,∃ok,ops[k]? = some ok∧XP ok=true∧XP oi=true∧ZE ops sf (l1++i :: l2) k ok oi:=fun k hk=>by
     have hki:=s3 k hk i (by simp)
     have U1:=(L.mem k).1 (by simp[hk])
     refine⟨ops[k],Array.getElem?_eq_getElem U1.1, ?_⟩
     rcases D.apart k i _ oi hki (Array.getElem?_eq_getElem U1.1) X8 with h|⟨n1,n2,h|⟨hm,h⟩⟩
     ·exact absurd (by simp[hk]) (hno k h)
     ·exact⟨n1,n2,.inl h⟩
     ·refine⟨n1,n2,.inr ?_⟩
      have hsa:=hsw.mem _ hm
      unfold Vm at hsa;simp only[Array.getElem?_eq_getElem U1.1,X8,Option.bind_some] at hsa;unfold FK at h;cases ha:gY ops[k] with
      | none=>rw[ha] at h;cases h
      | some aS =>
        cases ha':gY oi with
        | none=>rw[ha,ha'] at h;cases h
        | some bs =>
          rw[ha,ha'] at hsa h;simp only[Bool.and_eq_true] at h hsa;refine⟨aS,bs,rfl,rfl,h.1.1,hsa,fun m hm hkm' o ho a haa hd=>?_,fun m hm o ho b wY hd=>?_⟩
          ·have hb:=vR haa _ 0 h.1.2 m o (by simpa using ho) hd
           rw[Nat.zero_add] at hb;have bA:=D.aGI k _ (Array.getElem?_eq_getElem U1.1) m hb
           omega
          ·have hb:=vR wY _ 0 h.2 m o (by simpa using ho) hd
           rw[Nat.zero_add] at hb;exact hno m hb hm
    have Ad:=Yo kM lH X8 l2 l1 st sf ⟨F,h0,w0,ρ,a,w,S⟩ L.sorted nU he
    simp only[Lv,X8] at Ad
    cases h2:gU P bi call inl ops oi st with
    | none=>simp[h2,cN] at Ad
    | some s2' =>
      simp only[h2,cN] at Ad
      refine Tg S kM Ot X8 (lH i oi X8) h2 fun oD a' w' S'=>?_
      refine Yp kM Ot lH D hsw hQ f (l1++l2) _ s2' oD a' w' (by simp at hf ⊢;omega) ⟨by simp[L.size],fun j=>?_, ?_,fun j o ho hlj e he'' hb=>?_⟩ S' Ad
      ·have hm:=L.mem j
       simp only[List.mem_append,List.mem_cons] at hm ⊢;by_cases hji:j=i
       ·subst hji;have Qe:j ∉ l1:=fun h=>by have:=s3 j h j (by simp);omega
        have hn2:j ∉ l2:=fun h=>by have:=(List.pairwise_cons.1 s2).1 j h;omega
        have aGs:(mC.setIfInBounds j true).getD j true=true:=by
         have:j<mC.size:=by rw[L.size];exact hilt
         simp[this]
        simp[Qe,hn2,aGs]
       ·rw[getD_set_ne true (Ne.symm hji)];simpa [hji] using hm
      ·rw[List.pairwise_append];exact⟨s1,(List.pairwise_cons.1 s2).2,fun x hx y hy=>s3 x hx y (by simp[hy])⟩
      ·by_cases hji:i=j
       ·subst hji;rw[X8] at ho;cases ho
        exact getD_set_true (Kv e he'' hb)
       ·rw[getD_set_ne false hji] at hlj;exact getD_set_true (L.closed j o ho hlj e he'' hb)
theorem HY (hm:P.follows .mixedOrders=true) (kM:qY P call) (Ot:Yl P inl) {ops:Array Oper} {id:Nat} {draw:Bool} (rY:codeOk bi nt (.region id ops draw)=true) {Q:Exit→Act→World→Prop} {st sf:St} {ρ:Nat→Nat→Value} {a:Act} {w:World}
 (S:kZ F h0 w0 nt ρ st a w) (hsw:bi=true→qB ops sf (Ext.dyn id ops.size (rZ ops))) (h:mL P bi call inl ops ops.toList st=some sf) (hQ:∀oD a' w',kZ F h0 w0 nt oD sf a' w'→Q .normal a' w'):(Code.region id ops draw).wp P Q a w:=by
 obtain⟨lH,hdraw⟩:=BS rY
 cases draw with
 | false =>
   refine wp_region ?_
   rw[List.range_eq_range'];have:=Ym kM Ot lH hQ ops.toList 0 st ρ a w (fun j o hj=>by simpa using hj) S h
   simpa using this
 | true =>
   rw[Th ops.toList 0 st (fun j=>.inl (by simp))] at h
   obtain⟨b,D⟩:=OK (hdraw rfl)
   refine wp_region_any hm ?_
   have hg:w.grownBy { w with drawn:=w.drawn+1 } none:=⟨rfl,rfl,rfl,Nat.le_refl _,fun _ _ _=>rfl⟩
   have hsw':qB ops sf (if bi=true then Ext.dyn id ops.size (rZ ops) else []):=by
    cases bi with
    | true=>exact hsw rfl
    | false=>exact trivial
   refine Yp kM Ot lH D hsw' hQ ops.size (List.range' 0 ops.size) _ st ρ a _ (by simp) ⟨by simp,fun j=>?_, ?_,fun j o ho hl=>?_⟩ (S.grow hg).1 (by simpa using h)
   ·rw[← List.range_eq_range',List.mem_range];constructor
    ·intro hj;exact⟨hj,by simp[hj]⟩
    ·exact fun h=>h.1
   ·rw[← List.range_eq_range'];exact List.pairwise_lt_range
   ·simp[Array.getD_eq_getD_getElem?,Array.getElem?_replicate] at hl
    split at hl<;>simp at hl
theorem En {p:Nat→Prop} (h:∃n,p n):∃n,p n∧∀m,p m→n≤m:=by
 obtain⟨n,hn⟩:=h
 induction n using Nat.strongRecOn with
 | _ n ih =>
   by_cases hl:∃m,m<n∧p m
   ·obtain⟨m,hm,hp⟩:=hl
    exact ih m hm hp
   ·exact⟨n,hn,fun m hm=>by
     rcases Nat.lt_or_ge m n with h|h
     ·exact absurd ⟨m,h,hm⟩ hl
     ·exact h⟩
noncomputable def Yq (p:Nat→Prop):Nat:=if h:∃n,p n then Classical.choose (En h) else 0
theorem Ti {p:Nat→Prop} (h:∃n,p n):p (Yq p)∧∀m,p m→Yq p≤m:=by
 unfold Yq;rw[dif_pos h];exact Classical.choose_spec (En h)
def Ex.to:Ex→Exit
 | .normal=>.normal
 | .exit id=>.exit id
 | .ret=>.ret
theorem pS (hm:P.follows .mixedOrders=true) (kM:qY P call) (Ot:Yl P inl) (n:Nat):∀(c:Code) (st sf:St) (ex:Ex) (ρ:Nat→Nat→Value) (a:Act) (w:World) (Q:Exit→Act→World→Prop),codeOk bi nt c=true →
 kZ F h0 w0 nt ρ st a w→uP P bi call inl n c st=some (ex,sf)→(∀oD a' w',kZ F h0 w0 nt oD sf a' w'→Q ex.to a' w')→c.wp P Q a w:=by
 induction n using Nat.strongRecOn with
 | _ n ih =>
 have pS:∀m,m<n→∀(c:Code) (st sf:St) (ex:Ex) (ρ:Nat→Nat→Value) (a:Act) (w:World) (Q:Exit→Act→World→Prop),codeOk bi nt c=true →
  kZ F h0 w0 nt ρ st a w→uP P bi call inl m c st=some (ex,sf)→(∀oD a' w',kZ F h0 w0 nt oD sf a' w'→Q ex.to a' w')→c.wp P Q a w:=ih
 clear ih
 intro c st sf ex ρ a w Q rY S h hQ;cases n with
 | zero=>simp[uP] at h
 | succ n =>
   cases c<;>simp only[uP] at h
   case skip =>
    simp only[Option.some.injEq,Prod.mk.injEq] at h;obtain⟨rfl,rfl⟩:=h
    exact wp_skip (hQ ρ a w S)
   case region id ops draw =>
    cases h1:mL P bi call inl ops ops.toList st with
    | none=>simp[h1,cN] at h
    | some s1 =>
      simp only[h1,cN] at h;split at h
      ·cases h
      ·rename_i hsw;simp only[Option.some.injEq,Prod.mk.injEq] at h;obtain⟨rfl,rfl⟩:=h
       exact HY hm kM Ot rY S (fun hb=>Classical.byContradiction fun hc=>hsw ⟨hb,hc⟩) h1 hQ
   case seq x y =>
    simp only[codeOk,Bool.and_eq_true] at rY;cases h1:uP P bi call inl n x st with
    | none=>simp[h1,cN] at h
    | some r =>
      obtain⟨e1,s1⟩:=r
      simp only[h1,cN] at h;refine wp_seq (pS n (by omega) x st s1 e1 ρ a w _ rY.1 S h1 fun oD a' w' S'=>?_)
      cases e1 with
      | normal=>exact pS n (by omega) y s1 sf ex oD a' w' Q rY.2 S' h hQ
      | exit id =>
        simp only[Option.some.injEq,Prod.mk.injEq] at h;obtain⟨rfl,rfl⟩:=h
        exact hQ oD a' w' S'
      | ret =>
        simp only[Option.some.injEq,Prod.mk.injEq] at h;obtain⟨rfl,rfl⟩:=h
        exact hQ oD a' w' S'
   case cond c x y =>
    simp only[codeOk,Bool.and_eq_true] at rY;split at h
    ·rename_i t ht;have hr:=S.ev c
     rw[ht] at hr;have hv:=iN hr
     refine wp_cond (t:=t) hv ?_
     cases t with
     | true=>exact pS n (by omega) x st sf ex ρ a w Q rY.1 S (by simpa using h) hQ
     | false=>exact pS n (by omega) y st sf ex ρ a w Q rY.2 S (by simpa using h) hQ
    ·cases h
   case block id b =>
    simp only[codeOk] at rY;cases h1:uP P bi call inl n b st with
    | none=>simp[h1,cN] at h
    | some r =>
      obtain⟨e1,s1⟩:=r
      simp only[h1,cN,Option.some.injEq,Prod.mk.injEq] at h;obtain⟨rfl,rfl⟩:=h
      refine wp_block (pS n (by omega) b st s1 e1 ρ a w _ rY S h1 fun oD a' w' S'=>?_)
      have:=hQ oD a' w' S'
      cases e1 with
      | normal=>exact this
      | exit i =>
        simp only[Ex.inBlock] at this;simp only[Ex.to,Exit.inBlock];by_cases hi:i=id
        ·rw[if_pos hi] at this ⊢;exact this
        ·rw[if_neg hi] at this ⊢;exact this
      | ret=>exact this
   case loop b =>
    have hok':=rY
    simp only[codeOk] at rY;let p:Act→World→Nat→Prop:=fun a w m=>m≤n+1∧∃st ρ,kZ F h0 w0 nt ρ st a w∧uP P bi call inl m (.loop b) st=some (ex,sf)
    refine wp_loop (fun a w=>∃m,p a w m) (fun a w=>Yq (p a w)) ⟨n+1,Nat.le_refl _,st,ρ,S,h⟩ fun a w hI=>?_
    obtain⟨⟨hle,st1,ρ1,S1,h1⟩,_⟩:=Ti hI
    generalize Yq (p a w)=m at h1 hle
    cases m with
    | zero=>simp[uP] at h1
    | succ m =>
      simp only[uP] at h1;cases h2:uP P bi call inl m b st1 with
      | none=>simp[h2,cN] at h1
      | some r =>
        obtain⟨e1,s1⟩:=r
        simp only[h2,cN] at h1;have hmn:m≤n:=by omega
        refine pS m (by omega) b st1 s1 e1 ρ1 a w _ rY S1 h2 fun oD a' w' S'=>?_
        cases e1 with
        | normal =>
          have hp:p a' w' m:=⟨by omega,s1,oD,S',h1⟩
          exact⟨⟨m,hp⟩,Nat.lt_succ_of_le ((Ti ⟨m,hp⟩).2 m hp)⟩
        | exit id =>
          simp only[Option.some.injEq,Prod.mk.injEq] at h1;obtain⟨rfl,rfl⟩:=h1
          exact hQ oD a' w' S'
        | ret =>
          simp only[Option.some.injEq,Prod.mk.injEq] at h1;obtain⟨rfl,rfl⟩:=h1
          exact hQ oD a' w' S'
   case exit id =>
    simp only[Option.some.injEq,Prod.mk.injEq] at h;obtain⟨rfl,rfl⟩:=h
    exact wp_exit (hQ ρ a w S)
   case ret =>
    simp only[Option.some.injEq,Prod.mk.injEq] at h;obtain⟨rfl,rfl⟩:=h
    exact wp_ret (hQ ρ a w S)
   all_goals cases h
end
end Go.Ab
end
section
namespace Go.Ab
open Classical
variable [Ext]
section
variable {P:Program}
theorem OO {h0:Nat→Obj→Prop} {w w':World}:(bare (Dc h0 w w')).Le (bare (newHs h0 w w' [])) :=
 ⟨fun b o h=>⟨h.1,h.2,by simp⟩,fun _=>Nat.le_refl _,fun _ _ h=>absurd h (by simp[bare])⟩
def zS (tmps:Array Value):ResultVar→Sem Value
 | .tmp t=>pure (tmps.getD t undef)
 | .cell p t=>do loadVar t (← asAddr (tmps.getD p undef))
theorem HZ {h0:Nat→Obj→Prop} {w0:World} {F:Gb} {nt:Nat} {ρ:Nat→Nat→Value} {st:St} {a:Act} {w:World} (S:kZ F h0 w0 nt ρ st a w) {rv:ResultVar} {x:AV} (h:kE P st rv=some x) :
 ∃y,(zS a.tmps rv).run P w=.ok y w∧cY (ctx h0 w0 ρ st w) x y:=by
 cases rv with
 | tmp t =>
   simp only[kE,Option.some.injEq] at h;subst h;exact⟨_,rfl,S.env t⟩
 | cell p T =>
   simp only[kE] at h;cases hra:qI st (st.env p) with
   | none=>simp[hra,cN] at h
   | some cs =>
     simp only[hra,cN] at h;obtain⟨b,off,arr,B,fr,hu,_,_⟩:=Na S hra (S.env p)
     obtain⟨r,hr,gB⟩:=Vu S hra h (S.env p)
     rw[hu] at hr;refine⟨r, ?_,gB⟩
     simp only[Instr.loadAt,Instr.sureAddr] at hr;simp only[zS,hu,asAddr];exact hr
theorem mD {h0:Nat→Obj→Prop} {w0:World} {F:Gb} {nt:Nat} {ρ:Nat→Nat→Value} {st:St} {a:Act} {w:World} (S:kZ F h0 w0 nt ρ st a w):∀(rs:List ResultVar) (xs:List AV),rs.map (kE P st)=xs.map some →
 ∃ys,(rs.mapM (zS a.tmps)).run P w=.ok ys w∧lO (ctx h0 w0 ρ st w) xs ys
 | [],xs,h=>by
   cases xs with
   | nil=>exact⟨[],rfl,.nil _⟩
   | cons x xs=>simp at h
 | r :: rs,xs,h=>by
   cases xs with
   | nil=>simp at h
   | cons x xs =>
     simp only[List.map_cons,List.cons.injEq] at h;obtain⟨y,hy,gB⟩:=HZ S h.1
     obtain⟨ys,Tz,hrels⟩:=mD S rs xs h.2
     refine⟨y :: ys, ?_,.cons gB hrels⟩
     rw[List.mapM_cons,dH hy,dH Tz];rfl
theorem IA {h0:Nat→Obj→Prop} {w0:World} {F:Gb} {nt:Nat} {ρ:Nat→Nat→Value} {st:St} {a:Act} {w:World} (S:kZ F h0 w0 nt ρ st a w) {fn:Func} {r:AV} (h:vY P fn st=some r) :
 ∃v,(results fn a.tmps).run P w=.ok v w∧NX h0 w0 w r v:=by
 have OP:∀(ys:List Value),(fn.results.toList.mapM (zS a.tmps)).run P w=.ok ys w →
  (results fn a.tmps).run P w=.ok (if h:ys.toArray.size=1 then ys.toArray[0] else .tuple ys.toArray) w:=by
  intro ys Tz;have e:results fn a.tmps=(do let vs ← fn.results.mapM (zS a.tmps);pure (if h:vs.size=1 then vs[0] else .tuple vs)):=by
   unfold results;congr 1
  rw[e,Array.mapM_eq_mapM_toList];simp only[Sem.run_bind,Sem.run_map,Tz,Result.andThen_ok,Sem.run_pure]
 unfold vY at h;split at h
 ·rename_i r1 K2;cases h1:kE P st r1 with
  | none=>simp[h1,cN] at h
  | some x =>
    simp only[h1,cN] at h;obtain⟨ys,Tz,gB⟩:=mD (P:=P) S [r1] [x] (by simp[h1])
    have hlen:=gB.len
    obtain⟨y,rfl⟩:∃y,ys=[y]:=by
     cases ys with
     | nil=>simp at hlen
     | cons y ys=>cases ys with
       | nil=>exact⟨y,rfl⟩
       | cons z zs=>simp at hlen
    have hxy:=gB.head
    have pY:=OP [y] (by rw[K2];exact Tz)
    simp at pY
    refine⟨y,pY, ?_⟩
    unfold Sn at h;split at h
    ·rename_i s g;split at h
     ·rename_i e sz n cs he;split at h
      ·rename_i hf;simp only[Option.some.injEq] at h;subst h;obtain⟨_,_,xs,ho,hc⟩:=S.sK s g _ he
       cases hxy with
       | own _ _ hg DD =>
         refine⟨[ρ s g],fun x hx=>by simp at hx;subst hx;exact DD,fun i j x y b hi hj _ _=>by
          have:=(List.getElem?_eq_some_iff.1 hi).1
          have:=(List.getElem?_eq_some_iff.1 hj).1
          simp only[List.length_singleton] at *
          omega,fun x hx b hb=>by simp at hx;subst hx;exact (Cj ho b hb).1,fun d c=>rfl,fun D d c hD lE=>?_⟩
         obtain⟨k1,k2⟩:=lE 0 _ rfl
         simp only[Nat.add_zero] at k1 k2;refine⟨?_,fun i e' x hi hx=>?_⟩
         ·have:=cY.own (C:=D) d c k1 (by rw[k2];exact DD)
          rw[k2] at this;exact this
         ·match i with
          | 0 =>
            simp only[XN,Tp,xP,List.getElem?_cons_zero,Option.some.injEq] at hi hx;subst hi;subst hx;exact⟨xs,ho,hc.flat hf fun b o hb=>hD b o ⟨hb.1,hb.2.1,by simpa using hb.2.2 s g _ he⟩⟩
          | i+1=>simp at hx
      ·cases h
     ·cases h
    ·exact EU (Jh h) ((Lt S hxy h).le OO)
 ·rename_i rs gW;simp only[Option.map_eq_some_iff] at h;obtain⟨ds,Re,rfl⟩:=h
  have hm:=jL _ _ Re
  have hex:∃xs:List AV,fn.results.toList.map (kE P st)=xs.map some∧xs.map (Ch st)=ds.map some:=by
   generalize fn.results.toList=l at hm
   clear Re
   induction l generalizing ds with
   | nil=>cases ds with
     | nil=>exact⟨[],rfl,rfl⟩
     | cons d ds=>simp at hm
   | cons r l ih=>cases ds with
     | nil=>simp at hm
     | cons d ds =>
       simp only[List.map_cons,List.cons.injEq] at hm;obtain⟨xs,e1,e2⟩:=ih ds hm.2
       cases hr:kE P st r with
       | none=>simp[hr,cN] at hm
       | some x =>
         simp only[hr,cN] at hm;exact⟨x :: xs,by simp[hr,e1],by simp[hm.1,e2]⟩
  obtain⟨xs,e1,e2⟩:=hex
  obtain⟨ys,Tz,gB⟩:=mD S _ xs e1
  have Qd:xs.length=fn.results.toList.length:=by have:=congrArg List.length e1;simpa using this.symm
  have n5:ds.length=xs.length:=by have:=congrArg List.length e2;simpa using this.symm
  have Y0:ys.toArray.size≠1:=by
   intro h1;have hlen:=gB.len
   simp only[List.size_toArray] at h1;have:fn.results.toList.length=1:=by omega
   obtain⟨z,hz⟩:=List.length_eq_one_iff.1 this
   exact gW z hz
  have pY:=OP ys Tz
  rw[dif_neg Y0] at pY;refine⟨_,pY, ?_⟩
  refine EU (.eN ds (pG (p:=Flat) (f:=fun r=>cN (kE P st r) (Ch st)) (fun a b h=>by
   cases hr:kE P st a with
   | none=>simp[hr,cN] at h
   | some x=>simp only[hr,cN] at h;exact UU h) _ _ Re)) (.eN ds ys.toArray (by simp;rw[n5];exact gB.len) fun i x y hx hy=>?_)
  have hi:i<xs.length:=by have:=(List.getElem?_eq_some_iff.1 hx).1;omega
  have Ja:Ch st xs[i]=some x:=by
   have:=congrArg (·[i]?) e2
   simp only[List.getElem?_map,hx,List.getElem?_eq_getElem hi,Option.map_some,Option.some.injEq] at this;exact this
  exact (OB S (gB.rel i xs[i] y (by simp[hi]) (by simpa using hy)) Ja).le OO
def ZF (w0:World) (ρ:Nat→Nat→Value) (st:St) (w:World) (d:Nat) (H:Nat→Obj→Prop) (f:Nat→AV→AV × List nM) (y:AV) (ks:List (Nat × Nat)) (u:Value):Prop :=
 (∀k∈ks,∃e,st.heap k.1 k.2=some e)∧∀c,(f c y).2.length=ks.length∧∀D:Ctx,(∀b o,H b o→D.h b o)→(∀(i:Nat) (k:Nat × Nat),ks[i]? = some k→c+i<D.aP d∧D.ρ d (c+i)=ρ k.1 k.2) →
  cY D (f c y).1 u∧∀(i:Nat) (e:nM) (k:Nat × Nat),(f c y).2[i]? = some e→ks[i]? = some k→nP D w w0.heap.size (ρ k.1 k.2) e
section qH
variable {h0:Nat→Obj→Prop} {w0:World} {F:Gb} {nt:Nat} {ρ:Nat→Nat→Value} {st:St} {a:Act} {w:World} {H:Nat→Obj→Prop}
theorem Y1 (S:kZ F h0 w0 nt ρ st a w) (hH:∀b o,(ctx h0 w0 ρ st w).h b o→H b o) {x y:AV} {u:Value} (hu:cY (ctx h0 w0 ρ st w) x u) (h:kN st x=some y) (d:Nat):ZF w0 ρ st w d H (xP d) y (gJ x) u:=by
 unfold kN at h;split at h
 ·rename_i hf;simp only[Option.some.injEq] at h;subst h;have hk:gJ x=[]:=by cases hf<;>rfl
  rw[hk];refine⟨by simp,fun c=>?_⟩
  rw[Jg hf];exact⟨rfl,fun D hD _=>⟨hu.flat hf fun b o hb=>hD _ _ (hH _ _ hb),by simp⟩⟩
 ·split at h
  ·rename_i s g _;split at h
   ·rename_i e sz n cs he;split at h
    ·rename_i hf;simp only[Option.some.injEq] at h;subst h;obtain⟨_,h1,xs,ho,hc⟩:=S.sK s g _ he
     have hu':u=ρ s g:=by cases hu;rfl
     subst hu'
     refine⟨by simp[gJ];exact⟨_,he⟩,fun c=>⟨rfl,fun D hD lE=>?_⟩⟩
     obtain⟨k1,k2⟩:=lE 0 (s,g) rfl
     simp only[Nat.add_zero] at k1 k2;refine⟨?_,fun i e' k hi hk=>?_⟩
     ·have:=cY.own (C:=D) d c k1 (by rw[k2];exact h1)
      rw[k2] at this;exact this
     ·match i with
      | 0 =>
        simp only[xP,gJ,List.getElem?_cons_zero,Option.some.injEq] at hi hk;subst hi;subst hk;exact⟨xs,ho,hc.flat hf fun b o hb=>hD _ _ (hH _ _ hb)⟩
      | i+1=>simp[gJ] at hk
    ·cases h
   ·cases h
  ·cases h
theorem Y2 {f:Nat→AV→AV × List nM} {kf:AV→List (Nat × Nat)} {d:Nat}:∀(xs ys:List AV) (us:List Value),xs.length=ys.length→xs.length=us.length →
 (∀(i:Nat) (x y:AV) (u:Value),xs[i]? = some x→ys[i]? = some y→us[i]? = some u→ZF w0 ρ st w d H f y (kf x) u) →
 (∀k∈xs.flatMap kf,∃e,st.heap k.1 k.2=some e)∧∀c,(pU f c ys).2.length=(xs.flatMap kf).length∧∀D:Ctx,(∀b o,H b o→D.h b o) →
  (∀(i:Nat) (k:Nat × Nat),(xs.flatMap kf)[i]? = some k→c+i<D.aP d∧D.ρ d (c+i)=ρ k.1 k.2) →
  lO D (pU f c ys).1 us∧∀(i:Nat) (e:nM) (k:Nat × Nat),(pU f c ys).2[i]? = some e→(xs.flatMap kf)[i]? = some k→nP D w w0.heap.size (ρ k.1 k.2) e
 | [],ys,us,h1,h2,_=>by
   have e1:ys=[]:=List.length_eq_zero_iff.1 (by simpa using h1.symm)
   have e2:us=[]:=List.length_eq_zero_iff.1 (by simpa using h2.symm)
   subst e1;subst e2;exact⟨by simp,fun c=>⟨rfl,fun D _ _=>⟨.nil _,by simp[pU]⟩⟩⟩
 | x :: xs,[],us,h1,_,_=>by simp at h1
 | x :: xs,y :: ys,[],_,h2,_=>by simp at h2
 | x :: xs,y :: ys,u :: us,h1,h2,hg=>by
   obtain⟨g1,g2⟩:=hg 0 x y u rfl rfl rfl
   obtain⟨i1,i2⟩:=Y2 xs ys us (by simpa using h1) (by simpa using h2) fun i x' y' u' hx hy hu=>hg (i+1) x' y' u' (by simpa using hx) (by simpa using hy) (by simpa using hu)
   refine⟨fun k hk=>?_,fun c=>?_⟩
   ·simp only[List.flatMap_cons,List.mem_append] at hk;rcases hk with hk|hk
    ·exact g1 k hk
    ·exact i1 k hk
   ·obtain⟨l1,m1⟩:=g2 c
    obtain⟨l2,m2⟩:=i2 (c+(f c y).2.length)
    rw[l1] at l2 m2;simp only[pU,List.flatMap_cons,List.length_append,l1];refine⟨by rw[l2],fun D hD lE=>?_⟩
    obtain⟨r1,e1⟩:=m1 D hD fun i k hk=>lE i k (by rw[List.getElem?_append_left (List.getElem?_eq_some_iff.1 hk).1];exact hk)
    obtain⟨r2,e2⟩:=m2 D hD fun i k hk=>by
     have:=lE ((kf x).length+i) k (by rw[List.getElem?_append_right (by omega)];simpa using hk)
     rw[Nat.add_assoc];exact this
    refine⟨.cons r1 r2,fun i e k hi hk=>?_⟩
    by_cases bA:i<(kf x).length
    ·rw[List.getElem?_append_left (by rw[l1];exact bA)] at hi
     rw[List.getElem?_append_left bA] at hk;exact e1 i e k hi hk
    ·rw[List.getElem?_append_right (by rw[l1];omega),l1] at hi
     rw[List.getElem?_append_right (by omega)] at hk
     exact e2 _ e k hi hk
theorem Yr {α β:Type} {f:α→Option β} {l:List α} {r:List β} (h:cC (l.map f)=some r):l.length=r.length∧∀(i:Nat) x y,l[i]? = some x→r[i]? = some y→f x=some y:=by
 have hm:=jL _ _ h
 have hl:l.length=r.length:=by have:=congrArg List.length hm;simpa using this
 refine⟨hl,fun i x y hx hy=>?_⟩
 have:=congrArg (·[i]?) hm
 simp only[List.getElem?_map,hx,hy,Option.map_some,Option.some.injEq] at this;exact this
theorem aFc (S:kZ F h0 w0 nt ρ st a w) (hH:∀b o,(ctx h0 w0 ρ st w).h b o→H b o) {x y:AV} {u:Value} (hu:cY (ctx h0 w0 ρ st w) x u) (h:rW st x=some y) (d:Nat):ZF w0 ρ st w d H (Tp d) y (jE x) u:=by
 cases x
 case agg cs =>
  simp only[rW,Option.map_eq_some_iff] at h;obtain⟨ds,Re,rfl⟩:=h
  obtain⟨hl,D1⟩:=Yr Re
  cases hu with
  | agg _ ar hla hr h1 =>
    obtain⟨g1,g2⟩:=Y2 (w0:=w0) (ρ:=ρ) (st:=st) (w:=w) (H:=H) (f:=xP d) (kf:=gJ) (d:=d) cs ds ar.toList hl (by simpa using hla) fun i x y v hx hy hv=>Y1 S hH (hr i x v hx (by simpa using hv)) (D1 i x y hx hy) d
    refine⟨g1,fun c=>?_⟩
    obtain⟨l1,m1⟩:=g2 c
    refine⟨l1,fun D hD lE=>?_⟩
    obtain⟨r1,e1⟩:=m1 D hD lE
    exact⟨.agg _ ar (by simpa using r1.len) (fun i x y hx hy=>r1.rel i x y hx (by simpa using hy)) h1,e1⟩
 all_goals
  have g:=Y1 S hH hu h d
  cases y<;>first|exact g|skip
  all_goals
   exfalso
   simp only[rW] at h;unfold kN at h;split at h
   ·simp at h
   ·simp at h
    try (split at h<;>(try split at h)<;>simp at h)
theorem aFd (S:kZ F h0 w0 nt ρ st a w) (hH:∀b o,(ctx h0 w0 ρ st w).h b o→H b o) {x y:AV} {u:Value} (hu:cY (ctx h0 w0 ρ st w) x u) (h:Ci st x=some y) (d:Nat):ZF w0 ρ st w d H (XN d) y (lW x) u:=by
 cases x
 case eN cs =>
  simp only[Ci,Option.map_eq_some_iff] at h;obtain⟨ds,Re,rfl⟩:=h
  obtain⟨hl,D1⟩:=Yr Re
  cases hu with
  | eN _ ar hla hr =>
    obtain⟨g1,g2⟩:=Y2 (w0:=w0) (ρ:=ρ) (st:=st) (w:=w) (H:=H) (f:=Tp d) (kf:=jE) (d:=d) cs ds ar.toList hl (by simpa using hla) fun i x y v hx hy hv=>aFc S hH (hr i x v hx (by simpa using hv)) (D1 i x y hx hy) d
    refine⟨g1,fun c=>?_⟩
    obtain⟨l1,m1⟩:=g2 c
    refine⟨l1,fun D hD lE=>?_⟩
    obtain⟨r1,e1⟩:=m1 D hD lE
    exact⟨.eN _ ar (by simpa using r1.len) (fun i x y hx hy=>r1.rel i x y hx (by simpa using hy)),e1⟩
 case agg cs =>
  have g:=aFc S hH hu h d
  cases y<;>first|exact g|(simp only[Ci,rW,Option.map_eq_some_iff] at h;obtain⟨_,_,h⟩:=h;cases h)
 all_goals
  have g:=Y1 S hH hu h d
  cases y<;>first|exact g|skip
  all_goals
   exfalso
   simp only[Ci,rW] at h;unfold kN at h;split at h
   ·simp at h
   ·simp at h
    try (split at h<;>(try split at h)<;>simp at h)
theorem Tj (S:kZ F h0 w0 nt ρ st a w) {x r:AV} {u:Value} (hu:cY (ctx h0 w0 ρ st w) x u) (hn:(lW x).Nodup) (h:Ci st x=some r):NX h0 w0 w r u:=by
 have hH:∀b o,(ctx h0 w0 ρ st w).h b o→newHs h0 w0 w ((lW x).map fun k=>ρ k.1 k.2) b o:=fun b o hb=>by
  have g:=(aFd (H:=(ctx h0 w0 ρ st w).h) S (fun _ _ h=>h) hu h 0).1
  refine⟨hb.1,hb.2.1,fun y hy=>?_⟩
  obtain⟨k,hk,rfl⟩:=List.mem_map.1 hy
  obtain⟨e,he⟩:=g k hk
  exact hb.2.2 _ _ e he
 have g:=fun d=>aFd S hH hu h d
 have key:∀y∈(lW x).map (fun k=>ρ k.1 k.2),∃k e,k∈lW x∧y=ρ k.1 k.2∧st.heap k.1 k.2=some e:=fun y hy=>by
  obtain⟨k,hk,rfl⟩:=List.mem_map.1 hy
  obtain⟨e,he⟩:=(g 0).1 k hk
  exact⟨k,e,hk,rfl,he⟩
 refine⟨(lW x).map fun k=>ρ k.1 k.2,fun y hy=>?_,fun i j y z b hy hz hb oC=>?_,fun y hy b hb=>?_,fun d c=>by rw[((g d).2 c).1];simp,fun D d c hD lE=>?_⟩
 ·obtain⟨k,e,_,rfl,he⟩:=key y hy
  exact (S.sK _ _ e he).2.1
 ·rw[List.getElem?_map] at hy hz;cases hi:(lW x)[i]? with
  | none=>simp[hi] at hy
  | some k=>cases hj:(lW x)[j]? with
    | none=>simp[hj] at hz
    | some k' =>
      simp only[hi,hj,Option.map_some,Option.some.injEq] at hy hz;subst hy;subst hz;obtain⟨e,he⟩:=(g 0).1 k (List.mem_of_getElem? hi)
      obtain⟨e',Ad⟩:=(g 0).1 k' (List.mem_of_getElem? hj)
      obtain⟨q1,q2⟩:=S.inj _ _ _ _ e e' b he Ad hb oC
      have hkk:k=k':=Prod.ext q1 q2
      subst hkk;obtain⟨hil,Bs⟩:=List.getElem?_eq_some_iff.1 hi
      obtain⟨hjl,hje⟩:=List.getElem?_eq_some_iff.1 hj
      have hp:=List.pairwise_iff_getElem.1 hn
      rcases Nat.lt_trichotomy i j with bA|heq|bA
      ·exact absurd (Bs.trans hje.symm) (hp i j hil hjl bA)
      ·exact heq
      ·exact absurd (hje.trans Bs.symm) (hp j i hjl hil bA)
 ·obtain⟨k,e,_,rfl,he⟩:=key y hy
  exact ((S.sK _ _ e he).2.2.RU b hb).1
 ·obtain⟨r1,e1⟩:=((g d).2 c).2 D hD fun i k hk=>lE i _ (by rw[List.getElem?_map,hk];rfl)
  refine⟨r1,fun i e y hi hy=>?_⟩
  rw[List.getElem?_map] at hy;cases hk:(lW x)[i]? with
  | none=>simp[hk] at hy
  | some k =>
    simp only[hk,Option.map_some,Option.some.injEq] at hy;subst hy;exact e1 i e k hi hk
end qH
theorem BT {h0:Nat→Obj→Prop} {w0:World} {F:Gb} {nt:Nat} {ρ:Nat→Nat→Value} {st:St} {a:Act} {w:World} (S:kZ F h0 w0 nt ρ st a w) {fn:Func} {r:AV} (h:Mu P fn st=some r) :
 ∃v,(results fn a.tmps).run P w=.ok v w∧NX h0 w0 w r v:=by
 have OP:∀(ys:List Value),(fn.results.toList.mapM (zS a.tmps)).run P w=.ok ys w →
  (results fn a.tmps).run P w=.ok (if h:ys.toArray.size=1 then ys.toArray[0] else .tuple ys.toArray) w:=by
  intro ys Tz;have e:results fn a.tmps=(do let vs ← fn.results.mapM (zS a.tmps);pure (if h:vs.size=1 then vs[0] else .tuple vs)):=by
   unfold results;congr 1
  rw[e,Array.mapM_eq_mapM_toList];simp only[Sem.run_bind,Sem.run_map,Tz,Result.andThen_ok,Sem.run_pure]
 unfold Mu at h;split at h
 ·rename_i r1 K2;cases h1:kE P st r1 with
  | none=>simp[h1,cN] at h
  | some x =>
    simp only[h1,cN] at h;split at h
    ·rename_i hn;obtain⟨ys,Tz,gB⟩:=mD (P:=P) S [r1] [x] (by simp[h1])
     have hlen:=gB.len
     obtain⟨y,rfl⟩:∃y,ys=[y]:=by
      cases ys with
      | nil=>simp at hlen
      | cons y ys=>cases ys with
        | nil=>exact⟨y,rfl⟩
        | cons z zs=>simp at hlen
     have pY:=OP [y] (by rw[K2];exact Tz)
     simp at pY
     exact⟨y,pY,Tj S gB.head hn h⟩
    ·cases h
 ·rename_i rs gW;cases HK:cC (fn.results.toList.map fun r=>kE P st r) with
  | none=>simp[HK,cN] at h
  | some xs =>
    simp only[HK,cN] at h;split at h
    ·rename_i hn;have e1:=jL _ _ HK
     obtain⟨ys,Tz,gB⟩:=mD S _ xs e1
     have Qd:xs.length=fn.results.toList.length:=by have:=congrArg List.length e1;simpa using this.symm
     have Y0:ys.toArray.size≠1:=by
      intro h1;have hlen:=gB.len
      simp only[List.size_toArray] at h1;have:fn.results.toList.length=1:=by omega
      obtain⟨z,hz⟩:=List.length_eq_one_iff.1 this
      exact gW z hz
     have pY:=OP ys Tz
     rw[dif_neg Y0] at pY;exact⟨_,pY,Tj S (.eN xs ys.toArray (by simpa using gB.len) fun i x y hx hy=>gB.rel i x y hx (by simpa using hy)) hn h⟩
    ·cases h
theorem BU {h0:Nat→Obj→Prop} {w0:World} {F:Gb} {nt:Nat} {ρ:Nat→Nat→Value} {st:St} {a:Act} {w:World} (S:kZ F h0 w0 nt ρ st a w) {f:Nat} {fn:Func} {r:AV} (h:jT P f fn st=some r) :
 ∃v,(results fn a.tmps).run P w=.ok v w∧NX h0 w0 w r v:=by
 unfold jT at h;split at h
 ·exact BT S h
 ·exact IA S h
theorem Y3 {h0:Nat→Obj→Prop} {w:World} {xs:List AV} {vs:Array Value} {nt:Nat} (hh:∀b o,h0 b o→w.heap[b]? = some o) (gB:lO (bare h0) xs vs.toList) :
 kZ Gb.none h0 w nt (fun _ _=>undef) (St.init xs) { tmps:=vs++Array.replicate (nt-vs.size) undef,defers:=[]} w:=by
 have k:(bare h0).Le (ctx h0 w (fun _ _=>undef) (St.init xs) w):=⟨fun b o h=>⟨hh b o h,fun _=>h,fun s g e he=>by simp[St.init] at he⟩,fun _=>Nat.le_refl _,fun _ _ h=>absurd h (by simp[bare])⟩
 refine⟨fun t=>?_,fun s g e he=>by simp[St.init] at he,fun s g s' g' e e' b he=>by simp[St.init] at he,⟨rfl,rfl,rfl,Nat.le_refl _,fun _ _ _=>rfl⟩,by simp;omega,rfl,⟨fun x v h=>h.elim,fun b o h=>h.elim,Nat.zero_le _⟩⟩
 have hlen:=gB.len
 simp only[Array.length_toList] at hlen;show cY _ ((xs[t]?).getD (.v undef)) _
 by_cases ht:t<vs.size
 ·have hx:xs[t]? = some (xs[t]'(by omega)):=by simp[show t<xs.length by omega]
  have hy:vs.toList[t]? = some vs[t]:=by simp[ht]
  have:=(gB.rel t _ _ hx hy).le k
  rw[hx];simp only[Option.getD_some];have e:(vs++Array.replicate (nt-vs.size) undef).getD t undef=vs[t]:=by
   simp[Array.getElem?_append_left ht,ht]
  rw[e];exact this
 ·have hx:xs[t]? = none:=List.getElem?_eq_none (by omega)
  rw[hx];have e:(vs++Array.replicate (nt-vs.size) undef).getD t undef=undef:=by
   rw[Array.getD_eq_getD_getElem?,Array.getElem?_append_right (by omega),Array.getElem?_replicate]
   split<;>rfl
  rw[e];exact .v _
def NQ (P:Program):Prop:=qY P Ext.ext
theorem aCH {h0:Nat→Obj→Prop} {w0:World} {F:Gb} {nt:Nat} {ρ:Nat→Nat→Value} {st:St} {a:Act} {w:World} (S:kZ F h0 w0 nt ρ st a w) {xs:List AV} {vs:Array Value} {n:Nat} (gB:lO (ctx h0 w0 ρ st w) xs vs.toList) :
 kZ ⟨fun x v=>F.fr x v∨∃t,x=st.env t∧v=a.tmps.getD t undef,F.hb,F.sz⟩ h0 w0 n ρ ((St.init xs).back st) { tmps:=vs++Array.replicate (n-vs.size) undef,defers:=[]} w:=by
 have hc:ctx h0 w0 ρ ((St.init xs).back st) w=ctx h0 w0 ρ st w:=rfl
 refine⟨fun t=>?_,fun s g e he=>?_,fun s g s' g' e e' b he Ad=>S.inj s g s' g' e e' b he Ad,S.ext,by simp;omega,rfl,⟨fun x v h=>?_,S.Mo.2.1,S.Mo.2.2⟩⟩
 ·have hlen:=gB.len
  simp only[Array.length_toList] at hlen;show cY _ ((xs[t]?).getD (.v undef)) _
  by_cases ht:t<vs.size
  ·have hx:xs[t]? = some (xs[t]'(by omega)):=by simp[show t<xs.length by omega]
   have hy:vs.toList[t]? = some vs[t]:=by simp[ht]
   have:=gB.rel t _ _ hx hy
   rw[hx];simp only[Option.getD_some];have e:(vs++Array.replicate (n-vs.size) undef).getD t undef=vs[t]:=by
    simp[Array.getElem?_append_left ht,ht]
   rw[e];exact this
  ·have hx:xs[t]? = none:=List.getElem?_eq_none (by omega)
   rw[hx];have e:(vs++Array.replicate (n-vs.size) undef).getD t undef=undef:=by
    rw[Array.getD_eq_getD_getElem?,Array.getElem?_append_right (by omega),Array.getElem?_replicate]
    split<;>rfl
   rw[e];exact .v _
 ·exact S.sK s g e he
 ·rcases h with h|⟨t,rfl,rfl⟩
  ·exact S.Mo.1 x v h
  ·exact S.env t
theorem BV {h0:Nat→Obj→Prop} {w0:World} {F:Gb} {nt:Nat} {ρ:Nat→Nat→Value} {st:St} {a:Act} {w:World} (S:kZ F h0 w0 nt ρ st a w) {fn:Func} {r:AV} (h:Ao P fn st=some r) :
 ∃v,(results fn a.tmps).run P w=.ok v w∧cY (ctx h0 w0 ρ st w) r v:=by
 have OP:∀(ys:List Value),(fn.results.toList.mapM (zS a.tmps)).run P w=.ok ys w →
  (results fn a.tmps).run P w=.ok (if h:ys.toArray.size=1 then ys.toArray[0] else .tuple ys.toArray) w:=by
  intro ys Tz;have e:results fn a.tmps=(do let vs ← fn.results.mapM (zS a.tmps);pure (if h:vs.size=1 then vs[0] else .tuple vs)):=by
   unfold results;congr 1
  rw[e,Array.mapM_eq_mapM_toList];simp only[Sem.run_bind,Sem.run_map,Tz,Result.andThen_ok,Sem.run_pure]
 unfold Ao at h;split at h
 ·rename_i r1 K2;obtain⟨ys,Tz,gB⟩:=mD (P:=P) S [r1] [r] (by simp[h])
  have hlen:=gB.len
  obtain⟨y,rfl⟩:∃y,ys=[y]:=by
   cases ys with
   | nil=>simp at hlen
   | cons y ys=>cases ys with
     | nil=>exact⟨y,rfl⟩
     | cons z zs=>simp at hlen
  have pY:=OP [y] (by rw[K2];exact Tz)
  simp at pY
  exact⟨y,pY,gB.head⟩
 ·rename_i rs gW;cases HK:cC (fn.results.toList.map fun r=>kE P st r) with
  | none=>simp[HK] at h
  | some xs =>
    simp only[HK,Option.map_some,Option.some.injEq] at h;subst h;have e1:=jL _ _ HK
    obtain⟨ys,Tz,gB⟩:=mD S _ xs e1
    have Qd:xs.length=fn.results.toList.length:=by have:=congrArg List.length e1;simpa using this.symm
    have Y0:ys.toArray.size≠1:=by
     intro h1;have hlen:=gB.len
     simp only[List.size_toArray] at h1;have:fn.results.toList.length=1:=by omega
     obtain⟨z,hz⟩:=List.length_eq_one_iff.1 this
     exact gW z hz
    have pY:=OP ys Tz
    rw[dif_neg Y0] at pY;exact⟨_,pY,.eN xs ys.toArray (by simpa using gB.len) fun i x y hx hy=>gB.rel i x y hx (by simpa using hy)⟩
theorem BW {xs:List AV} {u:Nat × Nat × Nat × List AV × List AV} (h:tS xs=some u):xs=.uniq u.1 u.2.1 u.2.2.1 u.2.2.2.1 :: u.2.2.2.2:=by
 unfold tS at h;split at h
 ·simp only[Option.some.injEq] at h;subst h;rfl
 ·cases h
theorem D9 {h0:Nat→Obj→Prop} {w:World} {v0:Value} {e sz m:Nat} {cs xs:List AV} {ys:List Value} {vs:Array Value} {nt:Nat} (hh:∀b o,h0 b o→w.heap[b]? = some o) (gW:∀b o,h0 b o→dF v0≠some b) (ho:oE w 0 e sz v0 m ys) (hc:gC (bare h0) cs ys) (gB:lO (bare h0) xs vs.toList) :
 kZ ⟨fun _ _=>False,fun b o=>w.heap[b]? = some o∧dF v0≠some b,w.heap.size⟩ h0 { w with heap:=#[]} nt (fun s g=>if s=0∧g=0 then v0 else undef) (St.sZ e sz m cs xs) { tmps:=(#[v0]++vs)++Array.replicate (nt-(#[v0]++vs).size) undef,defers:=[]} w:=by
 have zQ:∀s g e',(St.sZ e sz m cs xs).heap s g=some e'→s=0∧g=0∧e'=.row e sz m cs:=fun s g e' h=>by
  simp only[St.sZ] at h;split at h
  ·rename_i h1;cases h;exact⟨h1.1,h1.2,rfl⟩
  ·cases h
 have k:(bare h0).Le (ctx h0 { w with heap:=#[]} (fun s g=>if s=0∧g=0 then v0 else undef) (St.sZ e sz m cs xs) w) :=
  ⟨fun b o h=>⟨hh b o h,fun bA=>by simp at bA,fun s g e' he=>by
   obtain⟨rfl,rfl,_⟩:=zQ _ _ _ he
   exact gW b o h⟩,fun _=>Nat.zero_le _,fun _ _ h=>absurd h (by simp[bare])⟩
 refine⟨fun t=>?_,fun s g e' he=>?_,fun s g s' g' e1 e2 b he Ad _ _=>?_,⟨rfl,rfl,rfl,Nat.zero_le _,fun b hb _=>by simp at hb⟩,by simp;omega,rfl,⟨fun x v h=>h.elim,fun b o h=>⟨h.1,fun bA=>by simp at bA,fun s g e' he=>?_⟩,Nat.le_refl _⟩⟩
 ·have hlen:=gB.len
  simp only[Array.length_toList] at hlen;cases t with
  | zero =>
    have e0:((#[v0]++vs)++Array.replicate (nt-(#[v0]++vs).size) undef).getD 0 undef=v0:=by
     simp[Array.getElem?_append]
    rw[e0];have:=cY.own (C:=ctx h0 { w with heap:=#[]} (fun s g=>if s=0∧g=0 then v0 else undef) (St.sZ e sz m cs xs) w) 0 0 (by show 0<(St.sZ e sz m cs xs).aP 0;simp[St.sZ]) (by show (if (0:Nat)=0∧(0:Nat)=0 then v0 else undef).oneCell'=true;simp;exact tA ho)
    have e1:(ctx h0 { w with heap:=#[]} (fun s g=>if s=0∧g=0 then v0 else undef) (St.sZ e sz m cs xs) w).ρ 0 0=v0:=by show (if (0:Nat)=0∧(0:Nat)=0 then v0 else undef)=v0;simp
    rw[e1] at this;exact this
  | succ t =>
    show cY _ ((xs[t]?).getD (.v undef)) _
    by_cases ht:t<vs.size
    ·have hx:xs[t]? = some (xs[t]'(by omega)):=by simp[show t<xs.length by omega]
     have hy:vs.toList[t]? = some vs[t]:=by simp[ht]
     have:=(gB.rel t _ _ hx hy).le k
     rw[hx];simp only[Option.getD_some];have e2:((#[v0]++vs)++Array.replicate (nt-(#[v0]++vs).size) undef).getD (t+1) undef=vs[t]:=by
      rw[Array.getD_eq_getD_getElem?,Array.getElem?_append_left (by simp;omega),Array.getElem?_append_right (by simp)]
      simp[ht]
     rw[e2];exact this
    ·have hx:xs[t]? = none:=List.getElem?_eq_none (by omega)
     rw[hx];have e2:((#[v0]++vs)++Array.replicate (nt-(#[v0]++vs).size) undef).getD (t+1) undef=undef:=by
      rw[Array.getD_eq_getD_getElem?,Array.getElem?_append_right (by simp;omega),Array.getElem?_replicate]
      split<;>rfl
     rw[e2];exact .v _
 ·obtain⟨rfl,rfl,rfl⟩:=zQ _ _ _ he
  refine⟨by simp[St.sZ],by simp;exact tA ho, ?_⟩
  simp only[and_self,if_true];exact⟨ys,ho,hc.le k⟩
 ·obtain⟨rfl,rfl,_⟩:=zQ _ _ _ he
  obtain⟨rfl,rfl,_⟩:=zQ _ _ _ Ad
  exact⟨rfl,rfl⟩
 ·obtain⟨rfl,rfl,_⟩:=zQ _ _ _ he
  exact h.2
theorem aCI (hm:P.follows .mixedOrders=true) {call:Nat→List AV→Option AV} {inl:Nat→List AV→St→Option (AV × St)} (kM:qY P call) (Ot:Yl P inl) {n g:Nat} {xs:List AV} {u:Nat × Nat × Nat × List AV × List AV} (hq:tS xs=some u) {r:AV}
 (h:runM P call inl n g u.1 u.2.1 u.2.2.1 u.2.2.2.1 u.2.2.2.2=some r):Ho P g∧Hm P g xs r:=by
 have HK:=BW hq
 subst HK;obtain⟨e,sz,m,cs,rest⟩:=u
 simp only at h ⊢
 unfold runM at h;cases hf:P.funcs[g]? with
 | none=>simp[hf] at h
 | some fn =>
   simp only[hf] at h;split at h
   ·rename_i rY;cases hb:fn.body with
    | none=>simp[hb] at h
    | some c =>
      simp only[hb] at h;simp only[tN,DC,hb,Bool.and_eq_true,bne_iff_ne,ne_eq] at rY;refine⟨⟨fn,hf,by simpa using rY.1,by simp[hb]⟩, ?_⟩
      show US P g e sz m cs rest r
      intro w h0 v0 ys vs hh gW ho Ag gB;cases h1:uP P (oB c) call inl n c (St.sZ e sz m cs rest) with
      | none=>simp[h1,cN] at h
      | some es =>
        obtain⟨ex,sf⟩:=es
        simp only[h1,cN] at h;refine calls_of_wp hf hb ?_
        refine pS hm kM Ot n c (St.sZ e sz m cs rest) sf ex _ _ w _ rY.2 (D9 hh gW ho Ag gB) h1 fun oD a' w' S'=>?_
        have fin:An P fn sf=some r→∃e' tM n' Du,r=.uniq e' tM n' Du∧a'.defers=[]∧∃v',(results fn a'.tmps).run P w'=.ok v' w'∧w.grownBy w' (dF v0) ∧
         ∃zs,oE w' 0 e' tM v' n' zs∧gC (bare h0) Du zs∧∀b,dF v'=some b→dF v0=some b∨w.heap.size≤b:=fun h=>by
         unfold An at h;split at h
         ·rename_i r1 K2;split at h
          ·rename_i s k hrv;split at h
           ·rename_i e' tM n' Du hhp
            split at h
            ·rename_i hmf;simp only[Option.some.injEq] at h;subst h;obtain⟨y,hy,Oj⟩:=mD (P:=P) S' [r1] [.own s k] (by simp[hrv])
             have hlen:=Oj.len
             obtain⟨z,rfl⟩:∃z,y=[z]:=by
              cases y with
              | nil=>simp at hlen
              | cons y ys=>cases ys with
                | nil=>exact⟨y,rfl⟩
                | cons z zs=>simp at hlen
             have hz:z=oD s k:=by
              have:=Oj.head
              cases this
              rfl
             subst hz;have pY:(results fn a'.tmps).run P w'=.ok (oD s k) w':=by
              have e1:results fn a'.tmps=(do let vs ← fn.results.mapM (zS a'.tmps);pure (if h:vs.size=1 then vs[0] else .tuple vs)):=by
               unfold results;congr 1
              rw[e1,Array.mapM_eq_mapM_toList,K2];simp only[Sem.run_bind,Sem.run_map,hy,Result.andThen_ok,Sem.run_pure];simp
             obtain⟨_,_,zs,hzo,W1⟩:=S'.sK s k _ hhp
             obtain⟨_,hkb,U3⟩:=S'.Mo
             refine⟨e',tM,n',Du,rfl,S'.defers,_,pY,⟨S'.ext.os,S'.ext.tape,S'.ext.output,U3,fun b hb hnb=>?_⟩,zs, ?_, ?_,fun b hb=>?_⟩
             ·have NZ:w.heap[b]? = some w.heap[b]:=Array.getElem?_eq_getElem hb
              rw[NZ];exact (hkb b _ ⟨NZ,fun h=>hnb h.symm⟩).1
             ·exact yU hzo (Nat.zero_le _)
             ·exact⟨W1.len,fun i x y hx hy=>(W1.rel i x y hx hy).Oh (hmf x (List.mem_of_getElem? hx)),W1.one⟩
             ·by_cases h1:dF v0=some b
              ·exact .inl h1
              ·right
               rcases Nat.lt_or_ge b w.heap.size with bA|hge
               ·exfalso
                have NZ:w.heap[b]? = some w.heap[b]:=Array.getElem?_eq_getElem bA
                exact (hkb b _ ⟨NZ,h1⟩).2.2 s k _ hhp hb
               ·exact hge
            ·cases h
           ·cases h
          ·rename_i s k n0 hrv;split at h
           ·rename_i e' tM n' Du hhp
            split at h
            ·rename_i hmf;obtain⟨Eh,hcl',hmf⟩:=hmf
             simp only[Option.some.injEq] at h;subst h;obtain⟨y,hy,Oj⟩:=mD (P:=P) S' [r1] [.vw s k 0 n0] (by simp[hrv])
             have hlen:=Oj.len
             obtain⟨z,rfl⟩:∃z,y=[z]:=by
              cases y with
              | nil=>simp at hlen
              | cons y ys=>cases ys with
                | nil=>exact⟨y,rfl⟩
                | cons z zs=>simp at hlen
             obtain⟨_,_,zs,hzo,W1⟩:=S'.sK s k _ hhp
             obtain⟨_,hkb,U3⟩:=S'.Mo
             have hz:∃b cap cur,z=.slice (some ⟨b,0,none⟩) n0 cap∧dF (oD s k)=some b∧w'.heap[b]? = some (.cells cur e' (0,0))∧n0≤cap∧cap≤maxLen∧cur.size=cap * tM∧cur.toList.take (n' * tM)=zs∧0<cap:=by
              have hv:=Oj.head
              cases hv with
              | vw _ _ _ _ b cap hg hb nA yS =>
                have oC:dF (oD s k)=some b:=hb
                rcases hzo.2 with ⟨q,lE,hn⟩|⟨b',AU,cur,lE,wQ,hh,D2,C6,HJ,ht,qJ⟩
                ·rw[lE,pQ] at oC;cases oC
                ·have wY:b'=b:=by rw[lE,kJ qJ] at oC;simpa using oC
                 subst wY;have hcc:cap=AU:=yS rfl _ _ _ lE
                 subst hcc;exact⟨b',cap,cur,rfl,oC,hh,nA,C6,HJ,ht,qJ⟩
             obtain⟨b,cap,cur,rfl,hbk,hhb,nA,C6,HJ,ht,qJ⟩:=hz
             have pY:(results fn a'.tmps).run P w'=.ok (.slice (some ⟨b,0,none⟩) n0 cap) w':=by
              have e1:results fn a'.tmps=(do let vs ← fn.results.mapM (zS a'.tmps);pure (if h:vs.size=1 then vs[0] else .tuple vs)):=by
               unfold results;congr 1
              rw[e1,Array.mapM_eq_mapM_toList,K2];simp only[Sem.run_bind,Sem.run_map,hy,Result.andThen_ok,Sem.run_pure];simp
             have hks:n0 * tM≤n' * tM:=Nat.mul_le_mul_right _ Eh
             refine⟨e',tM,n0,_,rfl,S'.defers,_,pY,⟨S'.ext.os,S'.ext.tape,S'.ext.output,U3,fun b hb hnb=>?_⟩,zs.take (n0 * tM), ?_, ?_,fun b1 SK=>?_⟩
             ·have NZ:w.heap[b]? = some w.heap[b]:=Array.getElem?_eq_getElem hb
              rw[NZ];exact (hkb b _ ⟨NZ,fun h=>hnb h.symm⟩).1
             ·refine⟨by rw[List.length_take,hzo.1];omega,.inr ⟨b,cap,cur,rfl,Nat.zero_le _,hhb,nA,C6,HJ, ?_,qJ⟩⟩
              rw[← ht,List.take_take,Nat.min_eq_left hks]
             ·have hz2:gC (bare h0) Du zs:=⟨W1.len,fun i x y hx hy=>(W1.rel i x y hx hy).Oh (hmf x (List.mem_of_getElem? hx)),W1.one⟩
              exact hz2.take _
             ·rw[kJ qJ] at SK;simp only[Option.some.injEq] at SK;subst SK;by_cases h1:dF v0=some b
              ·exact .inl h1
              ·right
               rcases Nat.lt_or_ge b w.heap.size with bA|hge
               ·exfalso
                have NZ:w.heap[b]? = some w.heap[b]:=Array.getElem?_eq_getElem bA
                exact (hkb b _ ⟨NZ,h1⟩).2.2 s k _ hhp hbk
               ·exact hge
            ·cases h
           ·cases h
          ·cases h
         ·cases h
        cases ex with
        | normal=>obtain⟨e',tM,n',Du,rfl,h1,v',h2,h3,h4⟩:=fin h;exact⟨h1,v',h2,v',rfl,h3,h4⟩
        | ret=>obtain⟨e',tM,n',Du,rfl,h1,v',h2,h3,h4⟩:=fin h;exact⟨h1,v',h2,v',rfl,h3,h4⟩
        | exit id=>cases h
   ·cases h
theorem ZH (hm:P.follows .mixedOrders=true) (hx:NQ P):∀n,qY P (Mn P n)∧Yl P (Vo P n)
 | 0=>⟨fun g xs r h=>hx g xs r h,fun g xs st r s' h=>by cases h⟩
 | n+1=>by
   obtain⟨ihc,ihi⟩:=ZH hm hx n
   refine⟨fun g xs r h=>?_,fun g xs st r s' h=>?_⟩
   ·rw[yR] at h;split at h
    ·rename_i r' he
     simp only[Option.some.injEq] at h;subst h;exact hx g xs _ he
    ·cases hq:tS xs with
     | some u =>
       simp only[hq] at h;exact aCI hm ihc ihi hq h
     | none =>
     simp only[hq] at h;split at h
     ·cases h
     rename_i hnu;unfold ZX at h;cases hf:P.funcs[g]? with
     | none=>simp[hf] at h
     | some fn =>
       simp only[hf] at h;split at h
       ·rename_i rY;cases hb:fn.body with
        | none=>simp[hb] at h
        | some c =>
          simp only[hb] at h;simp only[tN,DC,hb,Bool.and_eq_true,bne_iff_ne,ne_eq] at rY;have hX:HE P g xs r→Hm P g xs r:=fun h=>by
           unfold Hm;split
           ·simp[tR] at hnu
           ·exact h
          refine⟨⟨fn,hf,by simpa using rY.1,by simp[hb]⟩,hX fun w h0 vs hh gB=>?_⟩
          cases h1:uP P (oB c) (Mn P n) (Vo P n) n c (St.init xs) with
          | none=>simp[h1,cN] at h
          | some es =>
            obtain⟨ex,sf⟩:=es
            simp only[h1,cN] at h;refine calls_of_wp hf hb ?_
            refine pS hm ihc ihi n c (St.init xs) sf ex _ _ w _ rY.2 (Y3 hh gB) h1 fun oD a' w' S'=>?_
            have fin:jT P g fn sf=some r→a'.defers=[]∧∃v,(results fn a'.tmps).run P w'=.ok v w'∧∃v',Ending.returned v=.returned v'∧NX h0 w w' r v'∧w.grownBy w' none:=fun h=>by
             obtain⟨v,hv,hr⟩:=BU S' h
             exact⟨S'.defers,v,hv,v,rfl,hr,S'.ext⟩
            cases ex with
            | normal=>exact fin h
            | ret=>exact fin h
            | exit id=>cases h
       ·cases h
   ·rw[Mw] at h;unfold ZY at h;cases hf:P.funcs[g]? with
    | none=>simp[hf] at h
    | some fn =>
      simp only[hf] at h;split at h
      ·rename_i rY;cases hb:fn.body with
       | none=>simp[hb] at h
       | some c =>
         simp only[hb] at h;simp only[DC,hb,Bool.and_eq_true,bne_iff_ne,ne_eq] at rY;refine⟨⟨fn,hf,by simpa using rY.1,by simp[hb]⟩,fun F h0 w0 nt ρ a w vs K S gB hK=>?_⟩
         cases h1:uP P true (Mn P n) (Vo P n) n c ((St.init xs).back st) with
         | none=>simp[h1,cN] at h
         | some es =>
           obtain⟨ex,sf⟩:=es
           simp only[h1,cN] at h;refine calls_of_wp hf hb ?_
           refine pS (F:=⟨fun x v=>F.fr x v∨∃t,x=st.env t∧v=a.tmps.getD t undef,F.hb,F.sz⟩) hm ihc ihi n c ((St.init xs).back st) sf ex _ _ w _ rY.2 (aCH S gB) h1 fun oD a' w' S'=>?_
           have fin:((Ao P fn sf).map fun x=>(x,sf))=some (r,s')→a'.defers=[]∧∃v,(results fn a'.tmps).run P w'=.ok v w'∧∃v',Ending.returned v=.returned v'∧K v' w':=fun h=>by
            cases hfi:Ao P fn sf with
            | none=>simp[hfi] at h
            | some x =>
              simp only[hfi,Option.map_some,Option.some.injEq,Prod.mk.injEq] at h;obtain⟨rfl,rfl⟩:=h
              obtain⟨v,hv,hr⟩:=BV S' hfi
              refine⟨S'.defers,v,hv,v,rfl,hK oD w' v ?_ hr⟩
              exact⟨fun t=>S'.Mo.1 _ _ (.inr ⟨t,rfl,rfl⟩),fun s g e he=>S'.sK s g e he,fun s g s2 g' e e' b he Ad=>S'.inj s g s2 g' e e' b he Ad,S'.ext,S.size,S.defers,⟨fun x v h=>S'.Mo.1 x v (.inl h),S'.Mo.2.1,S'.Mo.2.2⟩⟩
           cases ex with
           | normal=>exact fin h
           | ret=>exact fin h
           | exit id=>cases h
      ·cases h
theorem aGJ (hm:P.follows .mixedOrders=true) (hx:NQ P) (n:Nat):qY P (Mn P n):=(ZH hm hx n).1
end
end Go.Ab
end
section
namespace Go.Ab
open Classical
variable [Ext]
noncomputable def mH {α:Type} (g:Nat→Option α):Option α:=if h:∃n r,g n=some r then some (Classical.choose (Classical.choose_spec h)) else none
theorem Vh {α:Type} {g:Nat→Option α} (hm:∀n r,g n=some r→g (n+1)=some r) {n m:Nat} (h:n≤m) {r:α} (hr:g n=some r):g m=some r:=by
 induction m with
 | zero=>have:n=0:=by omega
         subst this;exact hr
 | succ m ih =>
   rcases Nat.lt_or_ge m n with h'|h'
   ·have:n=m+1:=by omega
    subst this;exact hr
   ·exact hm m r (ih h')
theorem IB {α:Type} {g:Nat→Option α} (hm:∀n r,g n=some r→g (n+1)=some r) (r:α):mH g=some r↔∃n,g n=some r:=by
 unfold mH;constructor
 ·intro h;split at h
  ·rename_i hh;simp only[Option.some.injEq] at h;exact⟨Classical.choose hh,by rw[← h];exact Classical.choose_spec (Classical.choose_spec hh)⟩
  ·cases h
 ·rintro⟨n,hn⟩
  have hh:∃n r,g n=some r:=⟨n,r,hn⟩
  rw[dif_pos hh];have h2:=Classical.choose_spec (Classical.choose_spec hh)
  congr 1
  rcases Nat.le_total n (Classical.choose hh) with hle|hle
  ·have:=Vh hm hle hn
   rw[h2] at this;exact Option.some.inj this
  ·have:=Vh hm hle h2
   rw[hn] at this;exact (Option.some.inj this).symm
theorem fU {α β:Type} {x:Option α} {f:α→Option β} {r:β}:cN x f=some r↔∃a,x=some a∧f a=some r:=by
 cases x<;>simp[cN]
def Ys (i i':Nat→List AV→St→Option (AV × St)):Prop:=∀g xs st r,i g xs st=some r→i' g xs st=some r
def vS (c c':Nat→List AV→Option AV):Prop:=∀g xs r,c g xs=some r→c' g xs=some r
section
variable (P:Program) {c c':Nat→List AV→Option AV} {i i':Nat→List AV→St→Option (AV × St)} {bi:Bool}
theorem Yt {α β:Type} {x y:Option α} {f:α→Option β} {r:β} (h:∀a,x=some a→y=some a) (hx:cN x f=some r):cN y f=some r:=by
 cases Ja:x with
 | none=>simp[Ja,cN] at hx
 | some a=>rw[h a Ja];rw[Ja] at hx;exact hx
theorem Bh (h:vS c c') {g:Nat} {args:List AV} {st:St} {dst:Option Nat} {e:rC} (he:aL c g args st dst=some e):aL c' g args st dst=some e:=by
 unfold aL at *
 split at he
 ·rename_i hf;rw[if_pos hf];exact Yt (h g args) he
 ·rename_i hf;rw[if_neg hf];split at he
  ·rename_i xs HK;exact Yt (h g xs) he
  ·cases he
theorem OQ (h:vS c c') {g:Nat} {args:List AV} {st:St} {dst:Option Nat} {e:rC} (he:lN c g args st dst=some e):lN c' g args st dst=some e:=by
 unfold lN at *
 split at he
 ·split at he
  ·rename_i e0 sz n cs hh;split at he
   ·rename_i hc;rename_i rest _;simp only[hh,if_pos hc];cases hr:c g (.uniq e0 sz n cs :: rest) with
    | none=>simp[hr] at he
    | some r=>rw[h _ _ _ hr];rw[hr] at he;exact he
   ·cases he
  ·cases he
 ·split at he
  ·rename_i hc;rw[if_pos hc];exact Bh h he
  ·cases he
theorem IC (h:vS c c') {g:Nat} {args:List AV} {st:St} {dst:Option Nat} {e:rC} (he:fF c g args st dst=some e):fF c' g args st dst=some e:=by
 unfold fF at *
 split at he
 ·rename_i s k hk;split at he
  ·rename_i rY;rw[if_pos rY];split at he
   ·rename_i xs HK;exact Yt (h g xs) he
   ·cases he
  ·cases he
 ·rename_i hk;exact Bh h he
theorem ID (h:vS c c') {f:Operand} {args:List AV} {st:St} {dst:Option Nat} {e:rC} (he:oA c f args st dst=some e):oA c' f args st dst=some e:=by
 cases f
 case func g =>
  simp only[oA] at *
  by_cases hm:Ext.mv g=true
  ·rw[if_pos hm] at *
   exact OQ h he
  ·rw[if_neg hm] at *
   by_cases hm2:Ext.eat g dst=true
   ·rw[if_pos hm2] at *
    exact IC h he
   ·rw[if_neg hm2] at *
    exact Bh h he
 all_goals
  simp only[oA] at *
  split at he
  ·exact Bh h he
  ·cases he
theorem VK (h:vS c c') {o:Oper} {st:St} {e:rC} (he:dI P c o st=some e):dI P c' o st=some e:=by
 obtain⟨dst,op,type,pos,after,guard⟩:=o
 cases op
 case call cl =>
  simp only[dI] at *
  unfold iJ at *
  split at he
  ·exact ID h he
  all_goals exact he
 case makeMap T r=>cases r<;>exact he
 all_goals exact he
theorem E0 (h:vS c c') {ops:Array Oper} {o:Oper} {st s:St} (he:cF P c ops o st=some s):cF P c' ops o st=some s:=by
 unfold cF at *
 split at he
 ·split at he
  ·rename_i b hg hb;rw[if_pos hb];cases h1:dI P c o st with
   | none=>simp[h1] at he
   | some e=>rw[VK P h h1];rw[h1] at he;exact he
  ·rename_i b hg hb;rw[if_neg hb];exact he
 ·cases he
theorem Yu (h:vS c c') (hi:Ys i i') {ops:Array Oper} {o:Oper} {st s:St} (he:gU P bi c i ops o st=some s):gU P bi c' i' ops o st=some s:=by
 unfold gU at he ⊢
 cases hg:(if bi=true then Fk o else none) with
 | none =>
   simp only[hg] at he ⊢;exact E0 P h he
 | some ga =>
   obtain⟨g,args⟩:=ga
   simp only[hg] at he ⊢;cases X3:gv ops st o.guard with
   | none=>simp[X3] at he
   | some t =>
     simp only[X3] at he ⊢;cases t with
     | false=>exact he
     | true =>
       simp only[if_true] at he ⊢;cases h1:i g (args.map st.ev) st with
       | none=>simp[h1] at he
       | some r=>rw[hi _ _ _ _ h1];rw[h1] at he;exact he
theorem Bi (h:vS c c') (hi:Ys i i') {ops:Array Oper}:∀(l:List Oper) {st s:St},mL P bi c i ops l st=some s→mL P bi c' i' ops l st=some s
 | [],st,s,he=>he
 | o :: l,st,s,he=>by
   simp only[mL] at *
   obtain⟨s1,h1,h2⟩:=fU.1 he
   exact fU.2 ⟨s1,Yu P h hi h1,Bi h hi l h2⟩
theorem oO (h:vS c c') (hi:Ys i i'):∀(n m:Nat),n≤m→∀(x:Code) (st:St) (r:Ex × St),uP P bi c i n x st=some r→uP P bi c' i' m x st=some r
 | 0,_,_,_,_,_,he=>by simp[uP] at he
 | n+1,0,hle,_,_,_,_=>by omega
 | n+1,m+1,hle,x,st,r,he=>by
   have ih:=oO h hi n m (by omega)
   cases x<;>simp only[uP] at he ⊢<;>(try exact he)
   case region id ops draw =>
    obtain⟨s1,h1,h2⟩:=fU.1 he
    exact fU.2 ⟨s1,Bi P h hi _ h1,h2⟩
   case seq a b =>
    obtain⟨⟨e1,s1⟩,h1,h2⟩:=fU.1 he
    refine fU.2 ⟨(e1,s1),ih _ _ _ h1, ?_⟩
    cases e1 with
    | normal=>exact ih _ _ _ h2
    | _=>exact h2
   case cond cc a b =>
    split at he
    ·split at he
     ·rename_i hb;rw[if_pos hb];exact ih _ _ _ he
     ·rename_i hb;rw[if_neg hb];exact ih _ _ _ he
    ·cases he
   case block id b =>
    obtain⟨r1,h1,h2⟩:=fU.1 he
    exact fU.2 ⟨r1,ih _ _ _ h1,h2⟩
   case loop b =>
    obtain⟨⟨e1,s1⟩,h1,h2⟩:=fU.1 he
    refine fU.2 ⟨(e1,s1),ih _ _ _ h1, ?_⟩
    cases e1 with
    | normal=>exact ih _ _ _ h2
    | _=>exact h2
theorem Rm:∀n,vS (Mn P n) (Mn P (n+1))∧Ys (Vo P n) (Vo P (n+1))
 | 0=>⟨fun g xs r h=>by
   rw[Vp] at h;rw[yR,h],fun g xs st r h=>by cases h⟩
 | n+1=>by
   obtain⟨ih,ii⟩:=Rm n
   refine⟨fun g xs r h=>?_,fun g xs st r h=>?_⟩
   ·rw[yR] at h ⊢;cases he:Ext.ext g xs with
    | some r'=>rw[he] at h;exact h
    | none =>
      simp only[he] at h;simp only
      cases hq:tS xs with
      | some u =>
        simp only[hq] at h;simp only
        unfold runM at h ⊢
        split at h
        ·split at h
         ·rename_i rY;rw[if_pos rY];split at h
          ·obtain⟨r1,h1,h2⟩:=fU.1 h
           exact fU.2 ⟨r1,oO P ih ii n (n+1) (by omega) _ _ _ h1,h2⟩
          ·cases h
         ·cases h
        ·cases h
      | none =>
        simp only[hq] at h;simp only
        by_cases hu:xs.any tR=true
        ·rw[if_pos hu] at h;cases h
        ·rw[if_neg hu] at h ⊢;unfold ZX at h ⊢
         split at h
         ·split at h
          ·rename_i rY;rw[if_pos rY];split at h
           ·obtain⟨r1,h1,h2⟩:=fU.1 h
            exact fU.2 ⟨r1,oO P ih ii n (n+1) (by omega) _ _ _ h1,h2⟩
           ·cases h
          ·cases h
         ·cases h
   ·rw[Mw] at h ⊢;unfold ZY at h ⊢
    split at h
    ·split at h
     ·rename_i rY;rw[if_pos rY];split at h
      ·obtain⟨r1,h1,h2⟩:=fU.1 h
       exact fU.2 ⟨r1,oO P ih ii n (n+1) (by omega) _ _ _ h1,h2⟩
      ·cases h
     ·cases h
    ·cases h
theorem Yv (n:Nat):vS (Mn P n) (Mn P (n+1)):=(Rm P n).1
theorem Yw (n:Nat):Ys (Vo P n) (Vo P (n+1)):=(Rm P n).2
theorem Ca {n m:Nat} (h:n≤m):vS (Mn P n) (Mn P m):=fun g xs r hr =>
 Vh (g:=fun n=>Mn P n g xs) (fun n r=>Yv P n g xs r) h hr
theorem Cb {n m:Nat} (h:n≤m):Ys (Vo P n) (Vo P m):=fun g xs st r hr =>
 Vh (g:=fun n=>Vo P n g xs st) (fun n r=>Yw P n g xs st r) h hr
noncomputable def aC (f:Nat) (xs:List AV):Option AV:=mH fun n=>Mn P n f xs
noncomputable def sH (f:Nat) (xs:List AV) (st:St):Option (AV × St):=mH fun n=>Vo P n f xs st
noncomputable def wM (bi:Bool) (x:Code) (st:St):Option (Ex × St):=mH fun n=>uP P bi (Mn P n) (Vo P n) n x st
theorem yQ {f:Nat} {xs:List AV} {r:AV}:aC P f xs=some r↔∃n,Mn P n f xs=some r:=IB (fun n r=>Yv P n f xs r) r
theorem Yx {f:Nat} {xs:List AV} {st:St} {r:AV × St}:sH P f xs st=some r↔∃n,Vo P n f xs st=some r:=IB (fun n r=>Yw P n f xs st r) r
theorem gS {x:Code} {st:St} {r:Ex × St}:wM P bi x st=some r↔∃n m,uP P bi (Mn P n) (Vo P n) m x st=some r:=by
 unfold wM;rw[IB (fun n r=>oO P (Yv P n) (Yw P n) n (n+1) (by omega) x st r)]
 constructor
 ·rintro⟨n,h⟩;exact⟨n,n,h⟩
 ·rintro⟨n,m,h⟩
  exact⟨max n m,oO P (Ca P (Nat.le_max_left n m)) (Cb P (Nat.le_max_left n m)) m _ (Nat.le_max_right n m) x st r h⟩
theorem UO (hm:P.follows .mixedOrders=true) (hx:NQ P) {f:Nat} {xs:List AV} {r:AV} (h:aC P f xs=some r):Hm P f xs r:=by
 obtain⟨n,hn⟩:=(yQ P).1 h
 exact (aGJ hm hx n f xs r hn).2
theorem aCJ (n:Nat):Ys (Vo P n) (sH P):=fun g xs st r h=>(Yx P).2 ⟨n,h⟩
theorem Y4 (n:Nat):vS (Mn P n) (aC P):=fun g xs r h=>(yQ P).2 ⟨n,h⟩
theorem IE {β:Type} {g:Nat} {xs:List AV} {f:AV→Option β} {r:β} (h:cN (aC P g xs) f=some r):∃n,cN (Mn P n g xs) f=some r:=by
 obtain⟨a,h1,h2⟩:=fU.1 h
 obtain⟨n,hn⟩:=(yQ P).1 h1
 exact⟨n,fU.2 ⟨a,hn,h2⟩⟩
theorem Fb {g:Nat} {args:List AV} {st:St} {dst:Option Nat} {e:rC} (h:aL (aC P) g args st dst=some e):∃n,aL (Mn P n) g args st dst=some e:=by
 unfold aL at h ⊢
 split at h
 ·rename_i hf;obtain⟨n,hn⟩:=IE P h
  exact⟨n,by rw[if_pos hf];exact hn⟩
 ·rename_i hf;split at h
  ·rename_i xs HK;obtain⟨n,hn⟩:=IE P h
   exact⟨n,by rw[if_neg hf];exact hn⟩
  ·cases h
theorem VL {g:Nat} {args:List AV} {st:St} {dst:Option Nat} {e:rC} (h:lN (aC P) g args st dst=some e):∃n,lN (Mn P n) g args st dst=some e:=by
 unfold lN at h ⊢
 split at h
 ·rename_i s k rest;split at h
  ·rename_i e0 sz n cs hh;split at h
   ·rename_i hc;simp only[hh,if_pos hc];cases hr:aC P g (.uniq e0 sz n cs :: rest) with
    | none=>simp[hr] at h
    | some r =>
      obtain⟨m,hm⟩:=(yQ P).1 hr
      exact⟨m,by rw[hm];rw[hr] at h;exact h⟩
   ·cases h
  ·cases h
 ·split at h
  ·rename_i hc;simp only[if_pos hc];exact Fb P h
  ·cases h
theorem OR {g:Nat} {args:List AV} {st:St} {dst:Option Nat} {e:rC} (h:fF (aC P) g args st dst=some e):∃n,fF (Mn P n) g args st dst=some e:=by
 unfold fF at h ⊢
 split at h
 ·rename_i s k hk;split at h
  ·rename_i rY;simp only[if_pos rY];split at h
   ·rename_i xs HK;exact IE P h
   ·cases h
  ·cases h
 ·rename_i hk;obtain⟨n,hn⟩:=Fb P h
  exact⟨n,hn⟩
theorem E1 {o:Oper} {st:St} {e:rC} (h:dI P (aC P) o st=some e):∃n,dI P (Mn P n) o st=some e:=by
 obtain⟨dst,op,type,pos,after,guard⟩:=o
 cases op
 case call cl =>
  simp only[dI] at *
  unfold iJ at *
  split at h
  ·unfold oA at h ⊢
   split at h
   ·split at h
    ·rename_i hm;obtain⟨n,hn⟩:=VL P h
     exact⟨n,by simp only[hm,if_true];exact hn⟩
    ·rename_i hm;split at h
     ·rename_i hm2;obtain⟨n,hn⟩:=OR P h
      exact⟨n,by rw[if_neg hm,if_pos hm2];exact hn⟩
     ·rename_i hm2;obtain⟨n,hn⟩:=Fb P h
      exact⟨n,by rw[if_neg hm,if_neg hm2];exact hn⟩
   ·split at h
    ·exact Fb P h
    ·cases h
  all_goals exact⟨0,h⟩
 case makeMap T r=>cases r<;>exact⟨0,h⟩
 all_goals exact⟨0,h⟩
theorem Y5 {ops:Array Oper} {o:Oper} {st s:St} (h:cF P (aC P) ops o st=some s):∃n,cF P (Mn P n) ops o st=some s:=by
 unfold cF at *
 split at h
 ·split at h
  ·rename_i b hg hb;cases h1:dI P (aC P) o st with
   | none=>simp[h1] at h
   | some e =>
     obtain⟨n,hn⟩:=E1 P h1
     refine⟨n, ?_⟩
     rw[if_pos hb,hn];rw[h1] at h;exact h
  ·rename_i b hg hb;exact⟨0,by rw[if_neg hb];exact h⟩
 ·cases h
theorem E2 {ops:Array Oper} {o:Oper} {st s:St} (h:gU P bi (aC P) (sH P) ops o st=some s):∃n,gU P bi (Mn P n) (Vo P n) ops o st=some s:=by
 unfold gU at h ⊢
 cases hg:(if bi=true then Fk o else none) with
 | none =>
   simp only[hg] at h ⊢;exact Y5 P h
 | some ga =>
   obtain⟨g,args⟩:=ga
   simp only[hg] at h ⊢;cases X3:gv ops st o.guard with
   | none=>simp[X3] at h
   | some t =>
     simp only[X3] at h ⊢;cases t with
     | false=>exact⟨0,h⟩
     | true =>
       simp only[if_true] at h ⊢;cases h1:sH P g (args.map st.ev) st with
       | none=>simp[h1] at h
       | some r =>
         obtain⟨n,hn⟩:=(Yx P).1 h1
         refine⟨n, ?_⟩
         rw[h1] at h;rw[hn];exact h
theorem Yy {ops:Array Oper}:∀(l:List Oper) {st s:St},mL P bi (aC P) (sH P) ops l st=some s→∃n,mL P bi (Mn P n) (Vo P n) ops l st=some s
 | [],st,s,h=>⟨0,h⟩
 | o :: l,st,s,h=>by
   simp only[mL] at *
   obtain⟨s1,h1,h2⟩:=fU.1 h
   obtain⟨n,hn⟩:=E2 P h1
   obtain⟨m,hm⟩:=Yy l h2
   exact⟨max n m,fU.2 ⟨s1,Yu P (Ca P (Nat.le_max_left n m)) (Cb P (Nat.le_max_left n m)) hn,Bi P (Ca P (Nat.le_max_right n m)) (Cb P (Nat.le_max_right n m)) l hm⟩⟩
theorem Ov {cc:Nat→List AV→Option AV} {ii:Nat→List AV→St→Option (AV × St)} {ops:Array Oper}:∀(l:List Oper) (st:St),mL P false cc ii ops l st=Ms P cc ops l st
 | [],st=>rfl
 | o :: l,st=>by
   have e:∀s,gU P false cc ii ops o s=cF P cc ops o s:=fun s=>rfl
   unfold mL Ms;rw[e];congr 1
   funext s
   exact Ov l s
theorem OS (st:St):wM P bi .skip st=some (.normal,st):=(gS P).2 ⟨0,1,rfl⟩
theorem OT (id:Nat) (st:St):wM P bi (.exit id) st=some (.exit id,st):=(gS P).2 ⟨0,1,rfl⟩
theorem ZI (st:St):wM P bi .ret st=some (.ret,st):=(gS P).2 ⟨0,1,rfl⟩
theorem Yz (id:Nat) (ops:Array Oper) (d:Bool) (st:St):wM P bi (.region id ops d) st=cN (mL P bi (aC P) (sH P) ops ops.toList st) fun s=>if bi=true∧¬qB ops s (Ext.dyn id ops.size (rZ ops)) then none else some (.normal,s):=by
 apply Option.ext
 intro r;rw[gS,fU];constructor
 ·rintro⟨n,m,h⟩
  cases m with
  | zero=>simp[uP] at h
  | succ m =>
    simp only[uP] at h;obtain⟨s1,h1,h2⟩:=fU.1 h
    exact⟨s1,Bi P (Y4 P n) (aCJ P n) _ h1,h2⟩
 ·rintro⟨s1,h1,h2⟩
  obtain⟨n,hn⟩:=Yy P _ h1
  exact⟨n,1,by simp only[uP];exact fU.2 ⟨s1,hn,h2⟩⟩
def Za (r:Ex × St) (k:St→Option (Ex × St)):Option (Ex × St) :=
 match r.1 with
 | .normal=>k r.2
 | e=>some (e,r.2)
theorem GN (a b:Code) (st:St):wM P bi (.seq a b) st=cN (wM P bi a st) fun r=>Za r (wM P bi b):=by
 apply Option.ext
 intro r;rw[gS,fU];constructor
 ·rintro⟨n,m,h⟩
  cases m with
  | zero=>simp[uP] at h
  | succ m =>
    simp only[uP] at h;obtain⟨⟨e1,s1⟩,h1,h2⟩:=fU.1 h
    refine⟨(e1,s1),(gS P).2 ⟨n,m,h1⟩, ?_⟩
    cases e1 with
    | normal=>exact (gS P).2 ⟨n,m,h2⟩
    | _=>exact h2
 ·rintro⟨⟨e1,s1⟩,h1,h2⟩
  obtain⟨n1,m1,h1⟩:=(gS P).1 h1
  cases e1 with
  | normal =>
    obtain⟨n2,m2,h2⟩:=(gS P).1 h2
    refine⟨max n1 n2,max m1 m2+1, ?_⟩
    simp only[uP];exact fU.2 ⟨(.normal,s1),oO P (Ca P (Nat.le_max_left _ _)) (Cb P (Nat.le_max_left _ _)) _ _ (Nat.le_max_left _ _) _ _ _ h1,oO P (Ca P (Nat.le_max_right _ _)) (Cb P (Nat.le_max_right _ _)) _ _ (Nat.le_max_right _ _) _ _ _ h2⟩
  | exit id=>exact⟨n1,m1+1,by simp only[uP];exact fU.2 ⟨(.exit id,s1),h1,h2⟩⟩
  | ret=>exact⟨n1,m1+1,by simp only[uP];exact fU.2 ⟨(.ret,s1),h1,h2⟩⟩
theorem OU (b:Code) (st:St):wM P bi (.loop b) st=cN (wM P bi b st) fun r=>Za r (wM P bi (.loop b)):=by
 apply Option.ext
 intro r;rw[gS,fU];constructor
 ·rintro⟨n,m,h⟩
  cases m with
  | zero=>simp[uP] at h
  | succ m =>
    simp only[uP] at h;obtain⟨⟨e1,s1⟩,h1,h2⟩:=fU.1 h
    refine⟨(e1,s1),(gS P).2 ⟨n,m,h1⟩, ?_⟩
    cases e1 with
    | normal=>exact (gS P).2 ⟨n,m,h2⟩
    | _=>exact h2
 ·rintro⟨⟨e1,s1⟩,h1,h2⟩
  obtain⟨n1,m1,h1⟩:=(gS P).1 h1
  cases e1 with
  | normal =>
    obtain⟨n2,m2,h2⟩:=(gS P).1 h2
    refine⟨max n1 n2,max m1 m2+1, ?_⟩
    simp only[uP];exact fU.2 ⟨(.normal,s1),oO P (Ca P (Nat.le_max_left _ _)) (Cb P (Nat.le_max_left _ _)) _ _ (Nat.le_max_left _ _) _ _ _ h1,oO P (Ca P (Nat.le_max_right _ _)) (Cb P (Nat.le_max_right _ _)) _ _ (Nat.le_max_right _ _) _ _ _ h2⟩
  | exit id=>exact⟨n1,m1+1,by simp only[uP];exact fU.2 ⟨(.exit id,s1),h1,h2⟩⟩
  | ret=>exact⟨n1,m1+1,by simp only[uP];exact fU.2 ⟨(.ret,s1),h1,h2⟩⟩
theorem FC (id:Nat) (b:Code) (st:St):wM P bi (.block id b) st=cN (wM P bi b st) fun r=>some (r.1.inBlock id,r.2):=by
 apply Option.ext
 intro r;rw[gS,fU];constructor
 ·rintro⟨n,m,h⟩
  cases m with
  | zero=>simp[uP] at h
  | succ m =>
    simp only[uP] at h;obtain⟨r1,h1,h2⟩:=fU.1 h
    exact⟨r1,(gS P).2 ⟨n,m,h1⟩,h2⟩
 ·rintro⟨r1,h1,h2⟩
  obtain⟨n1,m1,h1⟩:=(gS P).1 h1
  exact⟨n1,m1+1,by simp only[uP];exact fU.2 ⟨r1,h1,h2⟩⟩
theorem OV (c:Operand) (a b:Code) (st:St) {t:Bool} (hc:st.ev c=.v (.bool t)):wM P bi (.cond c a b) st=if t=true then wM P bi a st else wM P bi b st:=by
 apply Option.ext
 intro r;rw[gS];constructor
 ·rintro⟨n,m,h⟩
  cases m with
  | zero=>simp[uP] at h
  | succ m =>
    simp only[uP,hc] at h;split at h
    ·rename_i hb;rw[if_pos hb];exact (gS P).2 ⟨n,m,h⟩
    ·rename_i hb;rw[if_neg hb];exact (gS P).2 ⟨n,m,h⟩
 ·intro h;split at h
  ·rename_i hb;obtain⟨n,m,h⟩:=(gS P).1 h
   exact⟨n,m+1,by simp only[uP,hc];rw[if_pos hb];exact h⟩
  ·rename_i hb;obtain⟨n,m,h⟩:=(gS P).1 h
   exact⟨n,m+1,by simp only[uP,hc];rw[if_neg hb];exact h⟩
noncomputable def yX (x:Code) (st:St):Option (Ex × St):=wM P false x st
theorem ZJ {x:Code} {st:St} {r:Ex × St}:yX P x st=some r↔∃n m,uP P false (Mn P n) (Vo P n) m x st=some r:=gS P
theorem Y6 (st:St):yX P .skip st=some (.normal,st):=OS P st
theorem Y7 (id:Nat) (st:St):yX P (.exit id) st=some (.exit id,st):=OT P id st
theorem aCK (st:St):yX P .ret st=some (.ret,st):=ZI P st
theorem VM (id:Nat) (ops:Array Oper) (d:Bool) (st:St):yX P (.region id ops d) st=cN (Ms P (aC P) ops ops.toList st) fun s=>some (.normal,s):=by
 rw[← Ov P (ii:=sH P)];have h:=Yz P (bi:=false) id ops d st
 simp only[Bool.false_eq_true,false_and,if_false] at h;exact h
theorem aCL (a b:Code) (st:St):yX P (.seq a b) st=cN (yX P a st) fun r=>Za r (yX P b):=GN P a b st
theorem Gu (b:Code) (st:St):yX P (.loop b) st=cN (yX P b st) fun r=>Za r (yX P (.loop b)):=OU P b st
theorem E3 (id:Nat) (b:Code) (st:St):yX P (.block id b) st=cN (yX P b st) fun r=>some (r.1.inBlock id,r.2):=FC P id b st
theorem Y8 (c:Operand) (a b:Code) (st:St) {t:Bool} (hc:st.ev c=.v (.bool t)):yX P (.cond c a b) st=if t=true then yX P a st else yX P b st:=OV P c a b st hc
noncomputable def Af (f:Nat) (fn:Func) (r:Ex × St):Option AV :=
 match r.1 with
 | .exit _=>none
 | _=>jT P f fn r.2
def bJ (fn:Func):Bool:=tN fn && (match fn.body with|some c=>!oB c|none=>true)
theorem Ki {xs:List AV} (h:xs.any tR=false):tS xs=none:=by
 cases xs with
 | nil=>rfl
 | cons x xs =>
   cases x<;>first|rfl|simp[tR] at h
noncomputable def A5 (fn:Func) (r:Ex × St):Option AV :=
 match r.1 with
 | .exit _=>none
 | _=>An P fn r.2
theorem MJ {f:Nat} {fn:Func} {c:Code} (hf:P.funcs[f]? = some fn) (hb:fn.body=some c) (rY:tN fn=true) (e sz m:Nat) (cs xs:List AV) (hx:Ext.ext f (.uniq e sz m cs :: xs)=none) :
 aC P f (.uniq e sz m cs :: xs)=cN (wM P (oB c) c (St.sZ e sz m cs xs)) (A5 P fn):=by
 apply Option.ext
 intro r;rw[yQ,fU];have hq:tS (.uniq e sz m cs :: xs)=some (e,sz,m,cs,xs):=rfl
 constructor
 ·rintro⟨n,h⟩
  cases n with
  | zero=>rw[Vp,hx] at h;cases h
  | succ n =>
    simp only[yR,hx,hq,runM,hf,rY,hb,if_true] at h;obtain⟨r1,h1,h2⟩:=fU.1 h
    exact⟨r1,(gS P).2 ⟨n,n,h1⟩,h2⟩
 ·rintro⟨r1,h1,h2⟩
  obtain⟨n,m',h1⟩:=(gS P).1 h1
  refine⟨max n m'+1, ?_⟩
  simp only[yR,hx,hq,runM,hf,rY,hb,if_true];exact fU.2 ⟨r1,oO P (Ca P (Nat.le_max_left _ _)) (Cb P (Nat.le_max_left _ _)) _ _ (Nat.le_max_right _ _) _ _ _ h1,h2⟩
theorem OW {f:Nat} {fn:Func} {c:Code} (hf:P.funcs[f]? = some fn) (hb:fn.body=some c) (rY:tN fn=true) (xs:List AV) (hx:Ext.ext f xs=none) (hu:xs.any tR=false):aC P f xs=cN (wM P (oB c) c (St.init xs)) (Af P f fn):=by
 apply Option.ext
 intro r;rw[yQ,fU];constructor
 ·rintro⟨n,h⟩
  cases n with
  | zero=>rw[Vp,hx] at h;cases h
  | succ n =>
    simp only[yR,hx,Ki hu,hu,ZX,hf,rY,hb,if_true] at h;obtain⟨r1,h1,h2⟩:=fU.1 h
    exact⟨r1,(gS P).2 ⟨n,n,h1⟩,h2⟩
 ·rintro⟨r1,h1,h2⟩
  obtain⟨n,m,h1⟩:=(gS P).1 h1
  refine⟨max n m+1, ?_⟩
  simp only[yR,hx,Ki hu,hu,ZX,hf,rY,hb,if_true];exact fU.2 ⟨r1,oO P (Ca P (Nat.le_max_left _ _)) (Cb P (Nat.le_max_left _ _)) _ _ (Nat.le_max_right _ _) _ _ _ h1,h2⟩
theorem Y9 {f:Nat} {fn:Func} {c:Code} (hf:P.funcs[f]? = some fn) (hb:fn.body=some c) (rY:bJ fn=true) (xs:List AV) (hx:Ext.ext f xs=none) (hu:xs.any tR=false):aC P f xs=cN (yX P c (St.init xs)) (Af P f fn):=by
 simp only[bJ,hb,Bool.and_eq_true,Bool.not_eq_true'] at rY;rw[OW P hf hb rY.1 xs hx hu,rY.2];rfl
noncomputable def aGK (fn:Func) (r:Ex × St):Option (AV × St) :=
 match r.1 with
 | .exit _=>none
 | _=>(Ao P fn r.2).map fun x=>(x,r.2)
theorem Jb {f:Nat} {fn:Func} {c:Code} (hf:P.funcs[f]? = some fn) (hb:fn.body=some c) (rY:DC true fn=true) (xs:List AV) (st:St):sH P f xs st=cN (wM P true c ((St.init xs).back st)) (aGK P fn):=by
 apply Option.ext
 intro r;rw[Yx,fU];constructor
 ·rintro⟨n,h⟩
  cases n with
  | zero=>rw[K8] at h;cases h
  | succ n =>
    simp only[Mw,ZY,hf,rY,hb,if_true] at h;obtain⟨r1,h1,h2⟩:=fU.1 h
    exact⟨r1,(gS P).2 ⟨n,n,h1⟩,h2⟩
 ·rintro⟨r1,h1,h2⟩
  obtain⟨n,m,h1⟩:=(gS P).1 h1
  refine⟨max n m+1, ?_⟩
  simp only[Mw,ZY,hf,rY,hb,if_true];exact fU.2 ⟨r1,oO P (Ca P (Nat.le_max_left _ _)) (Cb P (Nat.le_max_left _ _)) _ _ (Nat.le_max_right _ _) _ _ _ h1,h2⟩
end
end Go.Ab
end
