/-
  Part 4 of the proof: an evaluator of programs, its soundness, and what functions of this program compute.
-/
import Derived.Test.YtmcjkemalibacaaGreatK3
set_option linter.all false
set_option maxRecDepth 20000
set_option maxHeartbeats 40000000
section
namespace Go.Ab
open Classical
variable [Ext]
def Xk (ops:Array Oper) (acc:Array Nat):Prop :=
 ∀j o,j<acc.size→ops[j]? = some o→∀k,(acc.getD j 0).testBit k=true→∃e∈o.after,Region.binds .any e=true∧(e.on=k∨(acc.getD e.on 0).testBit k=true)
theorem DX (acc:Array Nat) (k:Nat):∀(l:List Edge) (s:Nat),(l.foldl (fun s e=>if Region.binds .any e=true then s ||| 2 ^ e.on ||| acc.getD e.on 0 else s) s).testBit k=true →
 s.testBit k=true∨∃e∈l,Region.binds .any e=true∧(e.on=k∨(acc.getD e.on 0).testBit k=true)
 | [],s,h=>.inl h
 | e :: l,s,h=>by
   simp only[List.foldl_cons] at h;rcases DX acc k l _ h with h|⟨e',zS,h⟩
   ·split at h
    ·rename_i hb;simp only[Nat.testBit_or,Bool.or_eq_true] at h;rcases h with (h|h)|h
     ·exact .inl h
     ·rw[Nat.testBit_two_pow] at h;exact .inr ⟨e,by simp,hb,.inl (by simpa using h)⟩
     ·exact .inr ⟨e,by simp,hb,.inr h⟩
    ·exact .inl h
   ·exact .inr ⟨e',by simp[zS],h⟩
theorem DY {α:Type} (n:Nat) (k:Nat→α):forced n k=k n:=by cases n<;>rfl
theorem Xl (ops:Array Oper):∀(l:List Oper) (acc:Array Nat),(∀i o,l[i]? = some o→ops[acc.size+i]? = some o)→Xk ops acc→Xk ops (CE l acc)
 | [],acc,_,h=>h
 | o :: l,acc,hl,h=>by
   unfold CE;rw[DY];refine Xl ops l _ (fun i o' ho'=>?_) ?_
   ·have:=hl (i+1) o' (by simpa using ho')
    simp only[Array.size_push];rw[← this];congr 1
    omega
   ·intro j oj hj hoj k hk;have qB:∀x,(acc.getD x 0).testBit k=true→((acc.push (QZ acc o)).getD x 0).testBit k=true:=fun x hx=>by
     have bB:x<acc.size:=by
      rcases Nat.lt_or_ge x acc.size with h'|h'
      ·exact h'
      ·simp[Array.getElem?_eq_none h'] at hx
     simp only[Array.getD_eq_getD_getElem?,Array.getElem?_push_lt bB] at hx ⊢;simpa [bB] using hx
    rcases Nat.lt_or_ge j acc.size with bB|hge
    ·have hk':(acc.getD j 0).testBit k=true:=by
      simp only[Array.getD_eq_getD_getElem?,Array.getElem?_push_lt bB] at hk ⊢;simpa [bB] using hk
     obtain⟨e,he,hb,hor⟩:=h j oj bB hoj k hk'
     exact⟨e,he,hb,hor.imp id (qB _)⟩
    ·have hje:j=acc.size:=by simp only[Array.size_push] at hj;omega
     subst hje;have ho:=hl 0 o (by simp)
     rw[Nat.add_zero,hoj] at ho;cases ho
     have hk':(QZ acc o).testBit k=true:=by simpa using hk
     rcases DX acc k _ 0 hk' with h0|⟨e,he,hb,hor⟩
     ·simp at h0
     ·exact⟨e,by simpa using he,hb,hor.imp id (qB _)⟩
theorem Ny {ops:Array Oper} {dy:List (Nat × Nat)} {b:Array Nat} {j:Nat} {oj:Oper}:∀(l:List Oper) (i0:Nat),Me ops dy b j oj l i0=true→∀i oi,l[i]? = some oi→i0+i<j→(b.getD j 0).testBit (i0+i)=true∨(WH oi=true∧WH oj=true∧(rZ ops oi oj=true∨((i0+i,j)∈dy∧EH ops b (i0+i) oi j oj=true)))
 | [],_,_,i,oi,h,_=>by simp at h
 | o :: l,i0,h,i,oi,ho,bB=>by
   unfold Me at h;simp only[Bool.and_eq_true,Bool.or_eq_true,decide_eq_true_eq] at h;cases i with
   | zero =>
     simp at ho
     subst ho;rcases h.1 with (h|h)|⟨⟨n1,n2⟩,h⟩
     ·omega
     ·exact .inl (by simpa using h)
     ·exact .inr ⟨n1,n2,h.imp id fun h=>⟨by simpa using h.1,by simpa using h.2⟩⟩
   | succ i =>
     have:=Ny l (i0+1) h.2 i oi (by simpa using ho) (by omega)
     rw[show i0+(i+1)=i0+1+i by omega]
     exact this
theorem Hh {ops:Array Oper} {dy:List (Nat × Nat)} {b:Array Nat}:∀(l:List Oper) (j0:Nat),EI ops dy b l j0=true→∀j oj,l[j]? = some oj →
 (∀e∈oj.after,Region.binds .any e=true→e.on<j0+j)∧Me ops dy b (j0+j) oj ops.toList 0=true
 | [],_,_,j,oj,h=>by simp at h
 | o :: l,j0,h,j,oj,ho=>by
   unfold EI at h;simp only[Bool.and_eq_true] at h;obtain⟨⟨h1,h2⟩,h3⟩:=h
   cases j with
   | zero =>
     simp at ho
     subst ho;refine⟨fun e he hb=>?_,by simpa using h2⟩
     have:=List.all_eq_true.1 h1 e (by simpa using he)
     simpa [hb] using this
   | succ j =>
     have:=Hh l (j0+1) h3 j oj (by simpa using ho)
     rw[show j0+(j+1)=j0+1+j by omega]
     exact this
structure Cw (ops:Array Oper) (dy:List (Nat × Nat)) (b:Array Nat):Prop where
 aLH:Xk ops b
 size:b.size=ops.size
 lt:∀j oj,ops[j]? = some oj→∀e∈oj.after,Region.binds .any e=true→e.on<j
 apart:∀i j oi oj,i<j→ops[i]? = some oi→ops[j]? = some oj→(b.getD j 0).testBit i=true∨(WH oi=true∧WH oj=true∧(rZ ops oi oj=true∨((i,j)∈dy∧EH ops b i oi j oj=true)))
theorem Xm:∀(l:List Oper) (acc:Array Nat),(CE l acc).size=acc.size+l.length
 | [],acc=>rfl
 | o :: l,acc=>by
   unfold CE;rw[DY,Xm l];simp
   omega
theorem NF {ops:Array Oper} {dy:List (Nat × Nat)} (h:Us ops dy=true):∃b,Cw ops dy b:=by
 unfold Us at h;refine⟨_,Xl ops ops.toList #[] (fun i o ho=>by simpa using ho) (fun j o hj=>by simp at hj),by rw[Xm];simp,fun j oj hoj=>?_,fun i j oi oj hij S4 hoj=>?_⟩
 ·have:=(Hh _ 0 h j oj (by simpa using hoj)).1
  simpa using this
 ·have:=(Hh _ 0 h j oj (by simpa using hoj)).2
  simp only[Nat.zero_add] at this;have:=Ny _ 0 this i oi (by simpa using S4) (by omega)
  simpa using this
section
variable {P:Program} {call:Nat→List AV→Option AV} {ops:Array Oper} {nt:Nat} {Q:Exit→Act→World→Prop}
theorem NG {h0:Nat→Obj→Prop} {w0:World} {F:Gf} {ρ:Nat→Nat→Value} {st:St} {a:Act} {w:World} (S:kN F h0 w0 nt ρ st a w) {o:Oper} {b:Bool} (h:gv ops st o.guard=some b):Region.wanted o (yielded ops a.tmps)=b:=by
 unfold gv at h;unfold Region.wanted;cases hg:o.guard with
 | none=>simp[hg] at h;subst h;rfl
 | some jw =>
   obtain⟨j,want⟩:=jw
   simp only[hg] at h;simp only
   cases hd:(ops[j]?).bind (·.dst) with
   | none =>
     simp[hd] at h
     subst h;simp[yielded,hd]
   | some d =>
     simp only[hd] at h;split at h
     ·rename_i x hx;have hr:=S.env d
      rw[hx] at hr;have hv:=iI hr
      rcases Nat.lt_or_ge d a.tmps.size with bB|hge
      ·have hv':a.tmps[d]? = some x:=by
        simp[bB] at hv ⊢
        exact hv
       simp only[yielded,hd,Option.bind_some,hv'];split at h
       ·simp only[Option.some.injEq] at h;rw[← h];simp
       ·simp only[Option.some.injEq] at h;subst h;rename_i gT;cases x<;>first|rfl|exact absurd rfl (gT _)
      ·have hn:a.tmps[d]? = none:=Array.getElem?_eq_none hge
       have hu:x=undef:=by simpa [hn] using hv.symm
       subst hu;simp[undef] at h
       subst h;simp[yielded,hd,hn]
     ·cases h
theorem UA {h0:Nat→Obj→Prop} {w0:World} {F:Gf} {ρ:Nat→Nat→Value} {st st':St} {a:Act} {w:World} {K:Act→World→Prop} (S:kN F h0 w0 nt ρ st a w) (kA:qQ P call) {i:Nat} {o:Oper}
 (hi:ops[i]? = some o) (hd:∀d,o.dst=some d→d<nt) (h:bZ P call ops o st=some st')
 (hK:∀nU a' w',kN F h0 w0 nt nU st' a' w'→K a' w'):wpOp P ops Q i K a w:=by
 unfold wpOp;simp only[hi];unfold bZ at h;cases hg:gv ops st o.guard with
 | none=>simp[hg] at h
 | some b =>
   rw[NG S hg];simp only[hg] at h;cases b with
   | true =>
     simp only[if_true] at h ⊢;cases he:dI P call o st with
     | none=>simp[he] at h
     | some e =>
       simp only[he,Option.map_some,Option.some.injEq] at h;subst h;exact .inl (Sh S kA he hd hK)
   | false =>
     simp only[Bool.false_eq_true,if_false,Option.some.injEq] at h ⊢;subst h;exact hK ρ _ w (S.put o.dst hd (.v _))
theorem GV {o:Oper} {a:Act} {w:World} {K:Act→World→Prop} (h:o.wp P a w K fun _ _ _=>False):∃a' w',K a' w':=by
 unfold Oper.wp at h;generalize (execOp a.eval o).run P w=r at h
 have hlet:¬LetsOut (fun _ _ _=>False):=by rintro⟨_,_,h⟩;exact h
 cases r with
 | ok n w' =>
   cases n<;>simp only[Oper.upon] at h<;>(try exact⟨_,_,h⟩)<;>(try exact h.elim)
   ·obtain⟨e,w2,fr,hR,_⟩:=h []
    cases e with
    | returned v=>exact⟨_,_,hR⟩
    | panicked c=>exact hR.elim
    | outgrown=>exact absurd hR hlet
   ·obtain⟨v,w2,hR,_⟩:=h default []
    exact⟨_,_,hR⟩
 | halt x w'=>cases x<;>simp only[Oper.upon] at h
def Valid (nt:Nat) (st:St):Prop:=∃(F:Gf) (h0:Nat→Obj→Prop) (w0:World) (ρ:Nat→Nat→Value) (a:Act) (w:World),kN F h0 w0 nt ρ st a w
theorem Valid.ids {st:St} (h:Valid nt st):∀t,mK st.aQ (st.env t):=by
 obtain⟨F,h0,w0,ρ,a,w,S⟩:=h
 exact fun t=>⟨ctx h0 w0 ρ st w,_,rfl,S.env t⟩
theorem Valid.hp {st:St} (h:Valid nt st):AL st:=by
 obtain⟨F,h0,w0,ρ,a,w,S⟩:=h
 intro s g cs he c hc;obtain⟨_,_,b,arr,T,_,_,_,Bg⟩:=S.sA s g _ he
 obtain⟨i,hi,rfl⟩:=List.getElem_of_mem hc
 have hl:=Bg.len
 exact⟨ctx h0 w0 ρ st w,arr.toList[i]'(by omega),rfl,Bg.rel i _ _ (by simp[hi]) (by simp)⟩
theorem Valid.step {st st':St} (h:Valid nt st) (kA:qQ P call) {o:Oper} (hd:∀d,o.dst=some d→d<nt) (he:bZ P call ops o st=some st'):Valid nt st':=by
 obtain⟨F,h0,w0,ρ,a,w,S⟩:=h
 unfold bZ at he;cases hg:gv ops st o.guard with
 | none=>simp[hg] at he
 | some b =>
   simp only[hg] at he;cases b with
   | true =>
     simp only[if_true] at he;cases hee:dI P call o st with
     | none=>simp[hee] at he
     | some e =>
       simp only[hee,Option.map_some,Option.some.injEq] at he;subst he;obtain⟨a',w',nU,S'⟩:=GV (Sh (Q:=fun _ _ _=>False) (K:=fun a' w'=>∃nU,kN F h0 w0 nt nU (e.apply st) a' w') S kA hee hd (fun nU a' w' h=>⟨nU,h⟩))
       exact⟨F,h0,w0,nU,a',w',S'⟩
   | false =>
     simp only[Bool.false_eq_true,if_false,Option.some.injEq] at he;subst he;exact⟨F,h0,w0,ρ,_,w,S.put o.dst hd (.v _)⟩
theorem vH {b:Array Nat} {i a:Nat} {aS:List Nat} (ha:a∈aS):∀(l:List Oper) (m0:Nat),vT b i aS l m0=true→∀m o,l[m]? = some o→o.dst=some a→(b.getD i 0).testBit (m0+m)=true
 | [],_,_,m,o,h,_=>by simp at h
 | o' :: l,m0,h,m,o,ho,hd=>by
   unfold vT at h;simp only[Bool.and_eq_true,Bool.or_eq_true] at h;cases m with
   | zero =>
     simp at ho
     subst ho;rcases h.1 with h|h
     ·rw[hd] at h;simp[ha] at h
     ·simpa using h
   | succ m =>
     have:=vH ha l (m0+1) h.2 m o (by simpa using ho) hd
     rw[show m0+(m+1)=m0+1+m by omega]
     exact this
theorem pU.mem {s:St}:∀ {l:List (Nat × Nat)},pU ops s l→∀p∈l,Ur ops s p
 | p :: l,h,q,hq=>by
   rcases List.mem_cons.1 hq with rfl|hq
   ·exact h.1
   ·exact h.2.mem q hq
structure Left (ops:Array Oper) (lV:Array Bool) (l:List Nat):Prop where
 size:lV.size=ops.size
 mem:∀j,j∈l↔j<ops.size∧lV.getD j true=false
 sorted:l.Pairwise (· < ·)
 closed:∀j o,ops[j]? = some o→lV.getD j false=true→∀e∈o.after,Region.binds .any e=true→lV.getD e.on false=true
theorem Cw.aFR {dy:List (Nat × Nat)} {b:Array Nat} (D:Cw ops dy b):∀(j:Nat) o,ops[j]? = some o→∀k,(b.getD j 0).testBit k=true→k<j:=by
 intro j;induction j using Nat.strongRecOn with
 | _ j ih =>
   intro o ho k hk;have hj:j<ops.size:=(Array.getElem?_eq_some_iff.1 ho).1
   obtain⟨e,he,hb,hor⟩:=D.aLH j o (by rw[D.size];exact hj) ho k hk
   have bB:=D.lt j o ho e he hb
   rcases hor with rfl|hk'
   ·exact bB
   ·have hes:e.on<ops.size:=by omega
    have:=ih e.on bB _ (Array.getElem?_eq_getElem hes) k hk'
    omega
theorem DZ {lV:Array Bool} {j:Nat} (hj:j<lV.size):lV.getD j true=lV.getD j false:=by simp[hj]
theorem NH {dy:List (Nat × Nat)} {b:Array Nat} (D:Cw ops dy b) {lV:Array Bool} {l:List Nat} (L:Left ops lV l):∀(j:Nat) o,ops[j]? = some o→(∀e∈o.after,Region.binds .any e=true→lV.getD e.on false=true) →
 ∀k,(b.getD j 0).testBit k=true→lV.getD k false=true:=by
 intro j;induction j using Nat.strongRecOn with
 | _ j ih =>
   intro o ho Ki k hk;have hj:j<ops.size:=(Array.getElem?_eq_some_iff.1 ho).1
   obtain⟨e,he,hb,hor⟩:=D.aLH j o (by rw[D.size];exact hj) ho k hk
   have hle:=Ki e he hb
   rcases hor with rfl|hk'
   ·exact hle
   ·have bB:=D.lt j o ho e he hb
    have hes:e.on<ops.size:=by omega
    exact ih e.on bB _ (Array.getElem?_eq_getElem hes) (L.closed e.on _ (Array.getElem?_eq_getElem hes) hle) k hk'
end
end Go.Ab
end
section
namespace Go.Ab
open Classical
variable [Ext]
section
variable {P:Program} {call:Nat→List AV→Option AV} {inl:Nat→List AV→St→Option (AV × St)} {bi:Bool} {nt:Nat} {h0:Nat→Obj→Prop} {w0:World} {F:Gf}
theorem AT {ops:Array Oper} {id:Nat} {draw:Bool} (h:codeOk bi nt (.region id ops draw)=true):(∀(j:Nat) o,ops[j]? = some o→∀d,o.dst=some d→d<nt)∧(draw=true→Us ops (if bi=true then Ext.dyn id ops.size (rR ops) else [])=true):=by
 simp only[codeOk,Bool.and_eq_true,Bool.or_eq_true,Bool.not_eq_true'] at h;refine⟨fun j o ho d hd=>?_,fun hdr=>h.2.resolve_left (by rw[hdr];simp)⟩
 have:=Array.all_eq_true_iff_forall_mem.1 h.1 o (Array.mem_of_getElem? ho)
 simpa [hd] using this
def Xn (P:Program) (inl:Nat→List AV→St→Option (AV × St)):Prop :=
 ∀g xs st r s',inl g xs st=some (r,s')→Ha P g ∧
  ∀(F:Gf) (h0:Nat→Obj→Prop) (w0:World) (nt:Nat) (ρ:Nat→Nat→Value) (a:Act) (w:World) (vs:Array Value) (K:Value→World→Prop),kN F h0 w0 nt ρ st a w→lI (ctx h0 w0 ρ st w) xs vs.toList →
   (∀nU w' v,kN F h0 w0 nt nU (st.back s') a w'→cS (ctx h0 w0 nU (st.back s') w') r v→K v w')→Calls P g vs w fun en w'=>∃v,en=.returned v∧K v w'
theorem UB {o:Oper} {g:Nat} {args:List Operand} (h:Ew o=some (g,args)):∃c,o.op=.call c∧c.callee=.value (.func g)∧c.args.toList=args:=by
 obtain⟨dst,op,type,pos,after,guard⟩:=o
 unfold Ew at h;split at h
 ·rename_i g' args' sZ pV
  split at h
  ·simp only[Option.some.injEq,Prod.mk.injEq] at h;obtain⟨rfl,rfl⟩:=h
   exact⟨_,pV,rfl,rfl⟩
  ·cases h
 ·cases h
theorem Sl {ops:Array Oper} {Q:Exit→Act→World→Prop} {ρ:Nat→Nat→Value} {st st':St} {a:Act} {w:World} {K:Act→World→Prop} (S:kN F h0 w0 nt ρ st a w) (kA:qQ P call) (Nz:Xn P inl) {i:Nat} {o:Oper}
 (hi:ops[i]? = some o) (hd:∀d,o.dst=some d→d<nt) (h:gN P bi call inl ops o st=some st')
 (hK:∀nU a' w',kN F h0 w0 nt nU st' a' w'→K a' w'):wpOp P ops Q i K a w:=by
 unfold gN at h;split at h
 ·rename_i g args hg;have YX:Ew o=some (g,args):=by
   split at hg
   ·exact hg
   ·cases hg
  obtain⟨c,pV,hcal,wF⟩:=UB YX
  unfold wpOp;simp only[hi];cases R5:gv ops st o.guard with
  | none=>simp[R5] at h
  | some b =>
    rw[NG S R5];simp only[R5] at h;cases b with
    | true =>
      simp only[if_true] at h ⊢;cases he:inl g (args.map st.ev) st with
      | none=>simp[he] at h
      | some r =>
        obtain⟨x,s'⟩:=r
        simp only[he,Option.map_some,Option.some.injEq] at h;subst h;refine .inl ?_
        obtain⟨⟨fn,aFN,R0,R1⟩,TP⟩:=Nz g _ st x s' he
        have hnb:fn.body.isNone=false:=by
         cases hb:fn.body<;>simp[hb] at R1 ⊢
        have Pm : ¬ fn.name = "runtime.NumGoroutine" := by simpa using R0
        have hn2:¬fn.body=none:=by intro h;simp[h] at hnb
        have pS:(execOp a.eval o).run P w=.ok (.enter g (c.args.map a.eval)) w:=by
         simp[execOp,pV,resolve,hcal,Act.eval,Deferred.ofValue,invoke,callFunc,aFN,Pm,hn2]
        have gA:lI (ctx h0 w0 ρ st w) (args.map st.ev) (c.args.map a.eval).toList:=by
         rw[← wF];simpa using lI.map c.args.toList _ _ fun p _=>S.ev p
        unfold Oper.wp;rw[pS,Oper.upon_enter];refine (TP F h0 w0 nt ρ a w (c.args.map a.eval) (fun v w'=>K (a.put o.dst v) w') S gA fun nU w' v S' hv=>?_).mono ?_
        ·exact hK nU _ w' (S'.put o.dst hd hv)
        ·rintro en w' ⟨v,rfl,hk⟩
         exact hk
    | false =>
      simp only[Bool.false_eq_true,if_false,Option.some.injEq] at h ⊢;subst h;exact hK ρ _ w (S.put o.dst hd (.v _))
 ·exact UA S kA hi hd h hK
theorem Xo {ops:Array Oper} (kA:qQ P call) (Nz:Xn P inl) (lD:∀(j:Nat) o,ops[j]? = some o→∀d,o.dst=some d→d<nt) {Q:Exit→Act→World→Prop} {sf:St}
 (hQ:∀nU a' w',kN F h0 w0 nt nU sf a' w'→Q .normal a' w'):∀(l:List Oper) (k:Nat) (st:St) (ρ:Nat→Nat→Value) (a:Act) (w:World),(∀(j:Nat) o,l[j]? = some o→ops[k+j]? = some o)→kN F h0 w0 nt ρ st a w →
  mG P bi call inl ops l st=some sf→wpOps P ops Q (List.range' k l.length) a w
 | [],k,st,ρ,a,w,hl,S,h=>by
   simp only[mG,Option.some.injEq] at h;subst h;exact hQ ρ a w S
 | o :: l,k,st,ρ,a,w,hl,S,h=>by
   rw[List.length_cons,List.range'_succ,wpOps_cons];have hi:ops[k]? = some o:=hl 0 o rfl
   unfold mG at h;cases h1:gN P bi call inl ops o st with
   | none=>simp[h1,cD] at h
   | some s1 =>
     simp only[h1,cD] at h;exact Sl S kA Nz hi (lD k o hi) h1 fun nU a' w' S'=>Xo kA Nz lD hQ l (k+1) s1 nU a' w' (fun j o' hj=>by
      have:=hl (j+1) o' (by simpa using hj)
      rw[show k+1+j=k+(j+1) by omega];exact this) S' h
noncomputable def Lg (P:Program) (bi:Bool) (call:Nat→List AV→Option AV) (inl:Nat→List AV→St→Option (AV × St)) (ops:Array Oper):List Nat→St→Option St
 | [],st=>some st
 | i :: r,st =>
   match ops[i]? with
   | some o=>cD (gN P bi call inl ops o st) (Lg P bi call inl ops r)
   | none=>Lg P bi call inl ops r st
theorem Sm {ops:Array Oper}:∀(l:List Oper) (k:Nat) (st:St),(∀j,l[j]? = ops[k+j]?∨l.length≤j)→mG P bi call inl ops l st=Lg P bi call inl ops (List.range' k l.length) st
 | [],k,st,h=>rfl
 | o :: l,k,st,h=>by
   have h0:=(h 0).resolve_right (by simp)
   simp only[List.getElem?_cons_zero,Nat.add_zero] at h0;simp only[mG,List.length_cons,List.range'_succ,Lg,← h0];cases gN P bi call inl ops o st with
   | none=>rfl
   | some s =>
     simp only[cD];exact Sm l (k+1) s fun j=>by
      rcases h (j+1) with h|h
      ·left
       rw[show k+1+j=k+(j+1) by omega,← h]
       simp
      ·right
       simpa using h
theorem Xp {ops:Array Oper} {o:Oper} {st s:St} {a:Nat} (h:bZ P call ops o st=some s) (hd:o.dst≠some a):s.env a=st.env a:=by
 rw[El] at h;cases he:rL P call ops o st with
 | none=>simp[he] at h
 | some e =>
   simp only[he,Option.map_some,Option.some.injEq] at h;subst h;rw[oG,(oQ he).1,if_neg hd]
theorem S5 {o:Oper} (h:WH o=true):Ew o=none:=by simpa [WH] using h
theorem NI {ops:Array Oper} {o:Oper} (h:WH o=true) (st:St):gN P bi call inl ops o st=bZ P call ops o st:=by
 unfold gN;rw[S5 h];cases bi<;>rfl
theorem y8 {ops:Array Oper} {o:Oper} {st s:St} {a:Nat} (h:gN P bi call inl ops o st=some s) (hd:o.dst≠some a):s.env a=st.env a:=by
 unfold gN at h;have hput:∀(s0:St) (x:AV),(s0.put o.dst x).env a=s0.env a:=fun s0 x=>by
  cases hod:o.dst with
  | none=>rfl
  | some d =>
    simp only[St.put];rw[if_neg];rintro rfl
    exact hd hod
 split at h
 ·split at h
  ·split at h
   ·simp only[Option.map_eq_some_iff] at h;obtain⟨r,_,rfl⟩:=h
    exact hput _ _
   ·simp only[Option.some.injEq] at h;subst h;exact hput _ _
  ·cases h
 ·exact Xp h hd
theorem Oa {ops:Array Oper} {a:Nat}:∀(l:List Nat) {st sf:St},(∀m∈l,∀o,ops[m]? = some o→o.dst≠some a)→Lg P bi call inl ops l st=some sf→sf.env a=st.env a
 | [],st,sf,_,h=>by
   simp only[Lg,Option.some.injEq] at h;subst h;rfl
 | i :: l,st,sf,hd,h=>by
   unfold Lg at h;cases hi:ops[i]? with
   | none=>simp only[hi] at h;exact Oa l (fun m hm=>hd m (by simp[hm])) h
   | some o =>
     simp only[hi] at h;cases h1:gN P bi call inl ops o st with
     | none=>simp[h1,cD] at h
     | some s1 =>
       simp only[h1,cD] at h;rw[Oa l (fun m hm=>hd m (by simp[hm])) h,y8 h1 (hd i (by simp) o hi)]
def XU (ops:Array Oper) (sf:St) (rest:List Nat) (k:Nat) (ok oi:Oper):Prop :=
 rZ ops ok oi=true∨∃aS bs,gS ok=some aS∧gS oi=some bs∧Oper.apart ops ok oi=true∧Kg sf aS bs ∧
  (∀m∈rest,k≤m→∀o,ops[m]? = some o→∀a∈aS,o.dst≠some a)∧(∀m∈rest,∀o,ops[m]? = some o→∀b∈bs,o.dst≠some b)
theorem Xq {ops:Array Oper} (kA:qQ P call) (lD:∀(j:Nat) o,ops[j]? = some o→∀d,o.dst=some d→d<nt) {i:Nat} {oi:Oper} (hi:ops[i]? = some oi) (l2:List Nat):∀(l1:List Nat) (st sf:St),Valid nt st→(l1++i :: l2).Pairwise (· < ·) →
 (∀k∈l1,∃ok,ops[k]? = some ok∧WH ok=true∧WH oi=true∧XU ops sf (l1++i :: l2) k ok oi)→Lg P bi call inl ops (l1++i :: l2) st=some sf→Lg P bi call inl ops (i :: (l1++l2)) st=some sf
 | [],st,sf,_,_,_,h=>h
 | k :: l1,st,sf,hv,hs,nG,h=>by
   obtain⟨ok,pM,Pm,hn2,hak⟩:=nG k (by simp)
   have e1:=fun st=>NI (P:=P) (bi:=bi) (call:=call) (inl:=inl) (ops:=ops) Pm st
   have e2:=fun st=>NI (P:=P) (bi:=bi) (call:=call) (inl:=inl) (ops:=ops) hn2 st
   simp only[List.cons_append,Lg,pM,e1] at h;cases h1:bZ P call ops ok st with
   | none=>simp[h1,cD] at h
   | some s1 =>
     simp only[h1,cD] at h;rw[List.cons_append,List.pairwise_cons] at hs;have ih:=Xq kA lD hi l2 l1 s1 sf (hv.step kA (lD k ok pM) h1) hs.2 (fun k' hk=>by
      obtain⟨ok',h1,m1,m2,h2⟩:=nG k' (by simp[hk])
      refine⟨ok',h1,m1,m2,h2.imp id ?_⟩
      rintro⟨a,a',e1,e2,e3,e4,e5,e6⟩
      exact⟨a,a',e1,e2,e3,e4,fun m hm=>e5 m (by simp only[List.cons_append];exact List.mem_cons_of_mem _ hm),fun m hm=>e6 m (by simp only[List.cons_append];exact List.mem_cons_of_mem _ hm)⟩) h
     have ih0:=ih
     simp only[Lg,hi,e2] at ih;cases h2:bZ P call ops oi s1 with
     | none=>simp[h2,cD] at ih
     | some s2 =>
       simp only[h2,cD] at ih;have hcomm:∃s3,bZ P call ops oi st=some s3∧bZ P call ops ok s3=some s2:=by
        rcases hak with hak|⟨aS,bs,Q2,e2',e3,e4,e5,e6⟩
        ·exact aBW hv.hp hak hv.ids h1 h2
        ·have w1:∀m∈i :: (l1++l2),m∈(k :: l1)++i :: l2∧k≤m:=fun m hm=>by
          have hm':m∈l1++i :: l2:=by
           simp only[List.mem_cons,List.mem_append] at hm ⊢;rcases hm with h|h|h
           ·exact .inr (.inl h)
           ·exact .inl h
           ·exact .inr (.inr h)
          exact⟨by simp only[List.cons_append];exact List.mem_cons_of_mem _ hm',Nat.le_of_lt (hs.1 m hm')⟩
         have f1:∀a∈aS,sf.env a=st.env a:=fun a ha=>by
          rw[Oa _ (fun m hm o ho=>e5 m (w1 m hm).1 (w1 m hm).2 o ho a ha) ih0,Xp h1 (e5 k (by simp) (Nat.le_refl _) ok pM a ha)]
         have f2:∀b∈bs,sf.env b=st.env b:=fun b hb=>by
          rw[Oa _ (fun m hm o ho=>e6 m (w1 m hm).1 o ho b hb) ih0,Xp h1 (e6 k (by simp) ok pM b hb)]
         have e4':Kg st aS bs:=fun a ha b hb=>by
          have:=e4 a ha b hb
          rw[f1 a ha,f2 b hb] at this;exact this
         exact S3 hv.ids Q2 e2' e3 e4' h1 h2
       obtain⟨s3,h3,h4⟩:=hcomm
       simp only[List.cons_append,Lg,hi,pM,e1,e2,h3,h4,cD];exact ih
theorem Xr {ops:Array Oper} {Q:Exit→Act→World→Prop} (kA:qQ P call) (Nz:Xn P inl) (lD:∀(j:Nat) o,ops[j]? = some o→∀d,o.dst=some d→d<nt) {dy:List (Nat × Nat)} {b:Array Nat} (D:Cw ops dy b) {sf:St} (hsw:pU ops sf dy)
 (hQ:∀nU a' w',kN F h0 w0 nt nU sf a' w'→Q .normal a' w'):∀(f:Nat) (l:List Nat) (lV:Array Bool) (st:St) (ρ:Nat→Nat→Value) (a:Act) (w:World),l.length=f→Left ops lV l→kN F h0 w0 nt ρ st a w →
 Lg P bi call inl ops l st=some sf→wpAny P .any ops Q f lV a w
 | 0,l,lV,st,ρ,a,w,hf,L,S,he=>by
   have hl:=List.length_eq_zero_iff.1 hf
   subst hl;simp only[Lg,Option.some.injEq] at he;subst he;refine⟨?_,hQ ρ a w S⟩
   cases hr:Region.ready .any ops lV with
   | nil=>rfl
   | cons x xs =>
     have hx:x∈Region.ready .any ops lV:=by rw[hr];simp
     obtain⟨h1,o,ho,_⟩:=mem_ready.1 hx
     have:=(L.mem x).2 ⟨(Array.getElem?_eq_some_iff.1 ho).1,h1⟩
     simp at this
 | f+1,l,lV,st,ρ,a,w,hf,L,S,he=>by
   refine⟨fun hr=>?_,fun i hi=>?_⟩
   ·exfalso
    cases l with
    | nil=>simp at hf
    | cons i l =>
      have hil:=(L.mem i).1 (by simp)
      have:i∈Region.ready .any ops lV:=mem_ready.2 ⟨hil.2,ops[i],Array.getElem?_eq_getElem hil.1,fun e zS hb=>by
       have bB:=D.lt i _ (Array.getElem?_eq_getElem hil.1) e zS hb
       cases hle:lV.getD e.on false with
       | true=>rfl
       | false =>
         have XQ:e.on<lV.size:=by rw[L.size];omega
         have hin:=(L.mem e.on).2 ⟨by omega,by rw[DZ XQ];exact hle⟩
         rcases List.mem_cons.1 hin with h|h
         ·omega
         ·have:=(List.pairwise_cons.1 L.sorted).1 _ h
          omega⟩
      rw[hr] at this;simp at this
   ·obtain⟨h1,oi,S4,Ki⟩:=mem_ready.1 hi
    have hilt:i<ops.size:=(Array.getElem?_eq_some_iff.1 S4).1
    have hil:=(L.mem i).2 ⟨hilt,h1⟩
    obtain⟨l1,l2,rfl⟩:=List.append_of_mem hil
    have hs:=L.sorted
    rw[List.pairwise_append] at hs;obtain⟨s1,s2,s3⟩:=hs
    have hno:∀m,(b.getD i 0).testBit m=true→m ∉ l1++i :: l2:=fun m h hm=>by
     have hkm:=(L.mem m).1 hm
     have:=NH D L i oi S4 Ki m h
     rw[← DZ (by rw[L.size];exact hkm.1),hkm.2] at this
     cases this
    have nG:∀k∈l1,∃ok,ops[k]? = some ok∧WH ok=true∧WH oi=true∧XU ops sf (l1++i :: l2) k ok oi:=fun k hk=>by
     have hki:=s3 k hk i (by simp)
     have hkm:=(L.mem k).1 (by simp[hk])
     refine⟨ops[k],Array.getElem?_eq_getElem hkm.1, ?_⟩
     rcases D.apart k i _ oi hki (Array.getElem?_eq_getElem hkm.1) S4 with h|⟨n1,n2,h|⟨hm,h⟩⟩
     ·exact absurd (by simp[hk]) (hno k h)
     ·exact⟨n1,n2,.inl h⟩
     ·refine⟨n1,n2,.inr ?_⟩
      have hsa:=hsw.mem _ hm
      unfold Ur at hsa;simp only[Array.getElem?_eq_getElem hkm.1,S4,Option.bind_some] at hsa;unfold EH at h;cases ha:gS ops[k] with
      | none=>rw[ha] at h;cases h
      | some aS =>
        cases ha':gS oi with
        | none=>rw[ha,ha'] at h;cases h
        | some bs =>
          rw[ha,ha'] at hsa h;simp only[Bool.and_eq_true] at h hsa;refine⟨aS,bs,rfl,rfl,h.1.1,hsa,fun m hm hkm' o ho a haa hd=>?_,fun m hm o ho b wL hd=>?_⟩
          ·have hb:=vH haa _ 0 h.1.2 m o (by simpa using ho) hd
           rw[Nat.zero_add] at hb;have bB:=D.aFR k _ (Array.getElem?_eq_getElem hkm.1) m hb
           omega
          ·have hb:=vH wL _ 0 h.2 m o (by simpa using ho) hd
           rw[Nat.zero_add] at hb;exact hno m hb hm
    have zS:=Xq kA lD S4 l2 l1 st sf ⟨F,h0,w0,ρ,a,w,S⟩ L.sorted nG he
    simp only[Lg,S4] at zS
    cases h2:gN P bi call inl ops oi st with
    | none=>simp[h2,cD] at zS
    | some s2' =>
      simp only[h2,cD] at zS
      refine Sl S kA Nz S4 (lD i oi S4) h2 fun nU a' w' S'=>?_
      refine Xr kA Nz lD D hsw hQ f (l1++l2) _ s2' nU a' w' (by simp at hf ⊢;omega) ⟨by simp[L.size],fun j=>?_, ?_,fun j o ho hlj e he'' hb=>?_⟩ S' zS
      ·have hm:=L.mem j
       simp only[List.mem_append,List.mem_cons] at hm ⊢;by_cases hji:j=i
       ·subst hji;have Pm:j ∉ l1:=fun h=>by have:=s3 j h j (by simp);omega
        have hn2:j ∉ l2:=fun h=>by have:=(List.pairwise_cons.1 s2).1 j h;omega
        have hset:(lV.setIfInBounds j true).getD j true=true:=by
         have:j<lV.size:=by rw[L.size];exact hilt
         simp[this]
        simp[Pm,hn2,hset]
       ·rw[getD_set_ne true (Ne.symm hji)];simpa [hji] using hm
      ·rw[List.pairwise_append];exact⟨s1,(List.pairwise_cons.1 s2).2,fun x hx y hy=>s3 x hx y (by simp[hy])⟩
      ·by_cases hji:i=j
       ·subst hji;rw[S4] at ho;cases ho
        exact getD_set_true (Ki e he'' hb)
       ·rw[getD_set_ne false hji] at hlj;exact getD_set_true (L.closed j o ho hlj e he'' hb)
theorem GW (hm:P.follows .mixedOrders=true) (kA:qQ P call) (Nz:Xn P inl) {ops:Array Oper} {id:Nat} {draw:Bool} (pM:codeOk bi nt (.region id ops draw)=true) {Q:Exit→Act→World→Prop} {st sf:St} {ρ:Nat→Nat→Value} {a:Act} {w:World}
 (S:kN F h0 w0 nt ρ st a w) (hsw:bi=true→pU ops sf (Ext.dyn id ops.size (rR ops))) (h:mG P bi call inl ops ops.toList st=some sf) (hQ:∀nU a' w',kN F h0 w0 nt nU sf a' w'→Q .normal a' w'):(Code.region id ops draw).wp P Q a w:=by
 obtain⟨lD,hdraw⟩:=AT pM
 cases draw with
 | false =>
   refine wp_region ?_
   rw[List.range_eq_range'];have:=Xo kA Nz lD hQ ops.toList 0 st ρ a w (fun j o hj=>by simpa using hj) S h
   simpa using this
 | true =>
   rw[Sm ops.toList 0 st (fun j=>.inl (by simp))] at h
   obtain⟨b,D⟩:=NF (hdraw rfl)
   refine wp_region_any hm ?_
   have hg:w.grownBy { w with drawn:=w.drawn+1 } none:=⟨rfl,rfl,rfl,Nat.le_refl _,fun _ _ _=>rfl⟩
   have hsw':pU ops sf (if bi=true then Ext.dyn id ops.size (rR ops) else []):=by
    cases bi with
    | true=>exact hsw rfl
    | false=>exact trivial
   refine Xr kA Nz lD D hsw' hQ ops.size (List.range' 0 ops.size) _ st ρ a _ (by simp) ⟨by simp,fun j=>?_, ?_,fun j o ho hl=>?_⟩ (S.grow hg).1 (by simpa using h)
   ·rw[← List.range_eq_range',List.mem_range];constructor
    ·intro hj;exact⟨hj,by simp[hj]⟩
    ·exact fun h=>h.1
   ·rw[← List.range_eq_range'];exact List.pairwise_lt_range
   ·simp[Array.getD_eq_getD_getElem?,Array.getElem?_replicate] at hl
    split at hl<;>simp at hl
theorem Dz {p:Nat→Prop} (h:∃n,p n):∃n,p n∧∀m,p m→n≤m:=by
 obtain⟨n,hn⟩:=h
 induction n using Nat.strongRecOn with
 | _ n ih =>
   by_cases hl:∃m,m<n∧p m
   ·obtain⟨m,hm,hp⟩:=hl
    exact ih m hm hp
   ·exact⟨n,hn,fun m hm=>by
     rcases Nat.lt_or_ge m n with h|h
     ·exact absurd ⟨m,h,hm⟩ hl
     ·exact h⟩
noncomputable def Xs (p:Nat→Prop):Nat:=if h:∃n,p n then Classical.choose (Dz h) else 0
theorem Sn {p:Nat→Prop} (h:∃n,p n):p (Xs p)∧∀m,p m→Xs p≤m:=by
 unfold Xs;rw[dif_pos h];exact Classical.choose_spec (Dz h)
def Ex.to:Ex→Exit
 | .normal=>.normal
 | .exit id=>.exit id
 | .ret=>.ret
theorem pN (hm:P.follows .mixedOrders=true) (kA:qQ P call) (Nz:Xn P inl) (n:Nat):∀(c:Code) (st sf:St) (ex:Ex) (ρ:Nat→Nat→Value) (a:Act) (w:World) (Q:Exit→Act→World→Prop),codeOk bi nt c=true →
 kN F h0 w0 nt ρ st a w→uG P bi call inl n c st=some (ex,sf)→(∀nU a' w',kN F h0 w0 nt nU sf a' w'→Q ex.to a' w')→c.wp P Q a w:=by
 induction n using Nat.strongRecOn with
 | _ n ih =>
 have pN:∀m,m<n→∀(c:Code) (st sf:St) (ex:Ex) (ρ:Nat→Nat→Value) (a:Act) (w:World) (Q:Exit→Act→World→Prop),codeOk bi nt c=true →
  kN F h0 w0 nt ρ st a w→uG P bi call inl m c st=some (ex,sf)→(∀nU a' w',kN F h0 w0 nt nU sf a' w'→Q ex.to a' w')→c.wp P Q a w:=ih
 clear ih
 intro c st sf ex ρ a w Q pM S h hQ;cases n with
 | zero=>simp[uG] at h
 | succ n =>
   cases c<;>simp only[uG] at h
   case skip =>
    simp only[Option.some.injEq,Prod.mk.injEq] at h;obtain⟨rfl,rfl⟩:=h
    exact wp_skip (hQ ρ a w S)
   case region id ops draw =>
    cases h1:mG P bi call inl ops ops.toList st with
    | none=>simp[h1,cD] at h
    | some s1 =>
      simp only[h1,cD] at h;split at h
      ·cases h
      ·rename_i hsw;simp only[Option.some.injEq,Prod.mk.injEq] at h;obtain⟨rfl,rfl⟩:=h
       exact GW hm kA Nz pM S (fun hb=>Classical.byContradiction fun hc=>hsw ⟨hb,hc⟩) h1 hQ
   case seq x y =>
    simp only[codeOk,Bool.and_eq_true] at pM;cases h1:uG P bi call inl n x st with
    | none=>simp[h1,cD] at h
    | some r =>
      obtain⟨e1,s1⟩:=r
      simp only[h1,cD] at h;refine wp_seq (pN n (by omega) x st s1 e1 ρ a w _ pM.1 S h1 fun nU a' w' S'=>?_)
      cases e1 with
      | normal=>exact pN n (by omega) y s1 sf ex nU a' w' Q pM.2 S' h hQ
      | exit id =>
        simp only[Option.some.injEq,Prod.mk.injEq] at h;obtain⟨rfl,rfl⟩:=h
        exact hQ nU a' w' S'
      | ret =>
        simp only[Option.some.injEq,Prod.mk.injEq] at h;obtain⟨rfl,rfl⟩:=h
        exact hQ nU a' w' S'
   case cond c x y =>
    simp only[codeOk,Bool.and_eq_true] at pM;split at h
    ·rename_i t ht;have hr:=S.ev c
     rw[ht] at hr;have hv:=iI hr
     refine wp_cond (t:=t) hv ?_
     cases t with
     | true=>exact pN n (by omega) x st sf ex ρ a w Q pM.1 S (by simpa using h) hQ
     | false=>exact pN n (by omega) y st sf ex ρ a w Q pM.2 S (by simpa using h) hQ
    ·cases h
   case block id b =>
    simp only[codeOk] at pM;cases h1:uG P bi call inl n b st with
    | none=>simp[h1,cD] at h
    | some r =>
      obtain⟨e1,s1⟩:=r
      simp only[h1,cD,Option.some.injEq,Prod.mk.injEq] at h;obtain⟨rfl,rfl⟩:=h
      refine wp_block (pN n (by omega) b st s1 e1 ρ a w _ pM S h1 fun nU a' w' S'=>?_)
      have:=hQ nU a' w' S'
      cases e1 with
      | normal=>exact this
      | exit i =>
        simp only[Ex.inBlock] at this;simp only[Ex.to,Exit.inBlock];by_cases hi:i=id
        ·rw[if_pos hi] at this ⊢;exact this
        ·rw[if_neg hi] at this ⊢;exact this
      | ret=>exact this
   case loop b =>
    have hok':=pM
    simp only[codeOk] at pM;let p:Act→World→Nat→Prop:=fun a w m=>m≤n+1∧∃st ρ,kN F h0 w0 nt ρ st a w∧uG P bi call inl m (.loop b) st=some (ex,sf)
    refine wp_loop (fun a w=>∃m,p a w m) (fun a w=>Xs (p a w)) ⟨n+1,Nat.le_refl _,st,ρ,S,h⟩ fun a w hI=>?_
    obtain⟨⟨hle,st1,ρ1,S1,h1⟩,_⟩:=Sn hI
    generalize Xs (p a w)=m at h1 hle
    cases m with
    | zero=>simp[uG] at h1
    | succ m =>
      simp only[uG] at h1;cases h2:uG P bi call inl m b st1 with
      | none=>simp[h2,cD] at h1
      | some r =>
        obtain⟨e1,s1⟩:=r
        simp only[h2,cD] at h1;have hmn:m≤n:=by omega
        refine pN m (by omega) b st1 s1 e1 ρ1 a w _ pM S1 h2 fun nU a' w' S'=>?_
        cases e1 with
        | normal =>
          have hp:p a' w' m:=⟨by omega,s1,nU,S',h1⟩
          exact⟨⟨m,hp⟩,Nat.lt_succ_of_le ((Sn ⟨m,hp⟩).2 m hp)⟩
        | exit id =>
          simp only[Option.some.injEq,Prod.mk.injEq] at h1;obtain⟨rfl,rfl⟩:=h1
          exact hQ nU a' w' S'
        | ret =>
          simp only[Option.some.injEq,Prod.mk.injEq] at h1;obtain⟨rfl,rfl⟩:=h1
          exact hQ nU a' w' S'
   case exit id =>
    simp only[Option.some.injEq,Prod.mk.injEq] at h;obtain⟨rfl,rfl⟩:=h
    exact wp_exit (hQ ρ a w S)
   case ret =>
    simp only[Option.some.injEq,Prod.mk.injEq] at h;obtain⟨rfl,rfl⟩:=h
    exact wp_ret (hQ ρ a w S)
   all_goals cases h
end
end Go.Ab
end
section
namespace Go.Ab
open Classical
variable [Ext]
section
variable {P:Program}
theorem NJ {h0:Nat→Obj→Prop} {w w':World}:(bare (Ct h0 w w')).Le (bare (newHs h0 w w' [])) :=
 ⟨fun b o h=>⟨h.1,h.2,by simp⟩,fun _=>Nat.le_refl _,fun _ _ h=>absurd h (by simp[bare])⟩
def zH (tmps:Array Value):ResultVar→Sem Value
 | .tmp t=>pure (tmps.getD t undef)
 | .cell p t=>do loadVar t (← asAddr (tmps.getD p undef))
theorem GX {h0:Nat→Obj→Prop} {w0:World} {F:Gf} {nt:Nat} {ρ:Nat→Nat→Value} {st:St} {a:Act} {w:World} (S:kN F h0 w0 nt ρ st a w) {rv:ResultVar} {x:AV} (h:jW P st rv=some x) :
 ∃y,(zH a.tmps rv).run P w=.ok y w∧cS (ctx h0 w0 ρ st w) x y:=by
 cases rv with
 | tmp t =>
   simp only[jW,Option.some.injEq] at h;subst h;exact⟨_,rfl,S.env t⟩
 | cell p T =>
   simp only[jW] at h;cases hra:qC st (st.env p) with
   | none=>simp[hra,cD] at h
   | some cs =>
     simp only[hra,cD] at h;obtain⟨b,off,arr,B,fr,hu,_,_⟩:=Mj S hra (S.env p)
     obtain⟨r,hr,gA⟩:=Uz S hra h (S.env p)
     rw[hu] at hr;refine⟨r, ?_,gA⟩
     simp only[Instr.loadAt,Instr.sureAddr] at hr;simp only[zH,hu,asAddr];exact hr
theorem lW {h0:Nat→Obj→Prop} {w0:World} {F:Gf} {nt:Nat} {ρ:Nat→Nat→Value} {st:St} {a:Act} {w:World} (S:kN F h0 w0 nt ρ st a w):∀(rs:List ResultVar) (xs:List AV),rs.map (jW P st)=xs.map some →
 ∃ys,(rs.mapM (zH a.tmps)).run P w=.ok ys w∧lI (ctx h0 w0 ρ st w) xs ys
 | [],xs,h=>by
   cases xs with
   | nil=>exact⟨[],rfl,.nil _⟩
   | cons x xs=>simp at h
 | r :: rs,xs,h=>by
   cases xs with
   | nil=>simp at h
   | cons x xs =>
     simp only[List.map_cons,List.cons.injEq] at h;obtain⟨y,hy,gA⟩:=GX S h.1
     obtain⟨ys,Tf,hrels⟩:=lW S rs xs h.2
     refine⟨y :: ys, ?_,.cons gA hrels⟩
     rw[List.mapM_cons,dG hy,dG Tf];rfl
theorem GY {h0:Nat→Obj→Prop} {w0:World} {F:Gf} {nt:Nat} {ρ:Nat→Nat→Value} {st:St} {a:Act} {w:World} (S:kN F h0 w0 nt ρ st a w) {fn:Func} {r:AV} (h:vO P fn st=some r) :
 ∃v,(results fn a.tmps).run P w=.ok v w∧MR h0 w0 w r v:=by
 have NK:∀(ys:List Value),(fn.results.toList.mapM (zH a.tmps)).run P w=.ok ys w →
  (results fn a.tmps).run P w=.ok (if h:ys.toArray.size=1 then ys.toArray[0] else .tuple ys.toArray) w:=by
  intro ys Tf;have e:results fn a.tmps=(do let vs ← fn.results.mapM (zH a.tmps);pure (if h:vs.size=1 then vs[0] else .tuple vs)):=by
   unfold results;congr 1
  rw[e,Array.mapM_eq_mapM_toList];simp only[Sem.run_bind,Sem.run_map,Tf,Result.andThen_ok,Sem.run_pure]
 unfold vO at h;split at h
 ·rename_i r1 F6;cases h1:jW P st r1 with
  | none=>simp[h1,cD] at h
  | some x =>
    simp only[h1,cD] at h;obtain⟨ys,Tf,gA⟩:=lW (P:=P) S [r1] [x] (by simp[h1])
    have hlen:=gA.len
    obtain⟨y,rfl⟩:∃y,ys=[y]:=by
     cases ys with
     | nil=>simp at hlen
     | cons y ys=>cases ys with
       | nil=>exact⟨y,rfl⟩
       | cons z zs=>simp at hlen
    have hxy:=gA.head
    have pS:=NK [y] (by rw[F6];exact Tf)
    simp at pS
    refine⟨y,pS, ?_⟩
    unfold Rt at h;split at h
    ·rename_i s g;split at h
     ·rename_i e sz n cs he;split at h
      ·rename_i hf;simp only[Option.some.injEq] at h;subst h;obtain⟨_,_,xs,ho,hc⟩:=S.sA s g _ he
       cases hxy with
       | own _ _ hg CG =>
         refine⟨[ρ s g],fun x hx=>by simp at hx;subst hx;exact CG,fun i j x y b hi hj _ _=>by
          have:=(List.getElem?_eq_some_iff.1 hi).1
          have:=(List.getElem?_eq_some_iff.1 hj).1
          simp only[List.length_singleton] at *
          omega,fun x hx b hb=>by simp at hx;subst hx;exact (Cc ho b hb).1,fun d c=>rfl,fun D d c hD lA=>?_⟩
         obtain⟨k1,k2⟩:=lA 0 _ rfl
         simp only[Nat.add_zero] at k1 k2;refine⟨?_,fun i e' x hi hx=>?_⟩
         ·have:=cS.own (C:=D) d c k1 (by rw[k2];exact CG)
          rw[k2] at this;exact this
         ·match i with
          | 0 =>
            simp only[WE,Sv,xF,List.getElem?_cons_zero,Option.some.injEq] at hi hx;subst hi;subst hx;exact⟨xs,ho,hc.flat hf fun b o hb=>hD b o ⟨hb.1,hb.2.1,by simpa using hb.2.2 s g _ he⟩⟩
          | i+1=>simp at hx
      ·cases h
     ·cases h
    ·exact DU (Is h) ((Ld S hxy h).le NJ)
 ·rename_i rs gT;simp only[Option.map_eq_some_iff] at h;obtain⟨ds,Ql,rfl⟩:=h
  have hm:=jE _ _ Ql
  have hex:∃xs:List AV,fn.results.toList.map (jW P st)=xs.map some∧xs.map (Ca st)=ds.map some:=by
   generalize fn.results.toList=l at hm
   clear Ql
   induction l generalizing ds with
   | nil=>cases ds with
     | nil=>exact⟨[],rfl,rfl⟩
     | cons d ds=>simp at hm
   | cons r l ih=>cases ds with
     | nil=>simp at hm
     | cons d ds =>
       simp only[List.map_cons,List.cons.injEq] at hm;obtain⟨xs,e1,e2⟩:=ih ds hm.2
       cases hr:jW P st r with
       | none=>simp[hr,cD] at hm
       | some x =>
         simp only[hr,cD] at hm;exact⟨x :: xs,by simp[hr,e1],by simp[hm.1,e2]⟩
  obtain⟨xs,e1,e2⟩:=hex
  obtain⟨ys,Tf,gA⟩:=lW S _ xs e1
  have Pl:xs.length=fn.results.toList.length:=by have:=congrArg List.length e1;simpa using this.symm
  have YW:ds.length=xs.length:=by have:=congrArg List.length e2;simpa using this.symm
  have S6:ys.toArray.size≠1:=by
   intro h1;have hlen:=gA.len
   simp only[List.size_toArray] at h1;have:fn.results.toList.length=1:=by omega
   obtain⟨z,hz⟩:=List.length_eq_one_iff.1 this
   exact gT z hz
  have pS:=NK ys Tf
  rw[dif_neg S6] at pS;refine⟨_,pS, ?_⟩
  refine DU (.eE ds (pD (p:=Flat) (f:=fun r=>cD (jW P st r) (Ca st)) (fun a b h=>by
   cases hr:jW P st a with
   | none=>simp[hr,cD] at h
   | some x=>simp only[hr,cD] at h;exact TL h) _ _ Ql)) (.eE ds ys.toArray (by simp;rw[YW];exact gA.len) fun i x y hx hy=>?_)
  have hi:i<xs.length:=by have:=(List.getElem?_eq_some_iff.1 hx).1;omega
  have Il:Ca st xs[i]=some x:=by
   have:=congrArg (·[i]?) e2
   simp only[List.getElem?_map,hx,List.getElem?_eq_getElem hi,Option.map_some,Option.some.injEq] at this;exact this
  exact (MV S (gA.rel i xs[i] y (by simp[hi]) (by simpa using hy)) Il).le NJ
def XV (w0:World) (ρ:Nat→Nat→Value) (st:St) (w:World) (d:Nat) (H:Nat→Obj→Prop) (f:Nat→AV→AV × List nD) (y:AV) (ks:List (Nat × Nat)) (u:Value):Prop :=
 (∀k∈ks,∃e,st.heap k.1 k.2=some e)∧∀c,(f c y).2.length=ks.length∧∀D:Ctx,(∀b o,H b o→D.h b o)→(∀(i:Nat) (k:Nat × Nat),ks[i]? = some k→c+i<D.aQ d∧D.ρ d (c+i)=ρ k.1 k.2) →
  cS D (f c y).1 u∧∀(i:Nat) (e:nD) (k:Nat × Nat),(f c y).2[i]? = some e→ks[i]? = some k→nF D w w0.heap.size (ρ k.1 k.2) e
section qB
variable {h0:Nat→Obj→Prop} {w0:World} {F:Gf} {nt:Nat} {ρ:Nat→Nat→Value} {st:St} {a:Act} {w:World} {H:Nat→Obj→Prop}
theorem S7 (S:kN F h0 w0 nt ρ st a w) (hH:∀b o,(ctx h0 w0 ρ st w).h b o→H b o) {x y:AV} {u:Value} (hu:cS (ctx h0 w0 ρ st w) x u) (h:kE st x=some y) (d:Nat):XV w0 ρ st w d H (xF d) y (gH x) u:=by
 unfold kE at h;split at h
 ·rename_i hf;simp only[Option.some.injEq] at h;subst h;have hk:gH x=[]:=by cases hf<;>rfl
  rw[hk];refine⟨by simp,fun c=>?_⟩
  rw[Ir hf];exact⟨rfl,fun D hD _=>⟨hu.flat hf fun b o hb=>hD _ _ (hH _ _ hb),by simp⟩⟩
 ·split at h
  ·rename_i s g _;split at h
   ·rename_i e sz n cs he;split at h
    ·rename_i hf;simp only[Option.some.injEq] at h;subst h;obtain⟨_,h1,xs,ho,hc⟩:=S.sA s g _ he
     have hu':u=ρ s g:=by cases hu;rfl
     subst hu'
     refine⟨by simp[gH];exact⟨_,he⟩,fun c=>⟨rfl,fun D hD lA=>?_⟩⟩
     obtain⟨k1,k2⟩:=lA 0 (s,g) rfl
     simp only[Nat.add_zero] at k1 k2;refine⟨?_,fun i e' k hi hk=>?_⟩
     ·have:=cS.own (C:=D) d c k1 (by rw[k2];exact h1)
      rw[k2] at this;exact this
     ·match i with
      | 0 =>
        simp only[xF,gH,List.getElem?_cons_zero,Option.some.injEq] at hi hk;subst hi;subst hk;exact⟨xs,ho,hc.flat hf fun b o hb=>hD _ _ (hH _ _ hb)⟩
      | i+1=>simp[gH] at hk
    ·cases h
   ·cases h
  ·cases h
theorem S8 {f:Nat→AV→AV × List nD} {kf:AV→List (Nat × Nat)} {d:Nat}:∀(xs ys:List AV) (us:List Value),xs.length=ys.length→xs.length=us.length →
 (∀(i:Nat) (x y:AV) (u:Value),xs[i]? = some x→ys[i]? = some y→us[i]? = some u→XV w0 ρ st w d H f y (kf x) u) →
 (∀k∈xs.flatMap kf,∃e,st.heap k.1 k.2=some e)∧∀c,(pP f c ys).2.length=(xs.flatMap kf).length∧∀D:Ctx,(∀b o,H b o→D.h b o) →
  (∀(i:Nat) (k:Nat × Nat),(xs.flatMap kf)[i]? = some k→c+i<D.aQ d∧D.ρ d (c+i)=ρ k.1 k.2) →
  lI D (pP f c ys).1 us∧∀(i:Nat) (e:nD) (k:Nat × Nat),(pP f c ys).2[i]? = some e→(xs.flatMap kf)[i]? = some k→nF D w w0.heap.size (ρ k.1 k.2) e
 | [],ys,us,h1,h2,_=>by
   have e1:ys=[]:=List.length_eq_zero_iff.1 (by simpa using h1.symm)
   have e2:us=[]:=List.length_eq_zero_iff.1 (by simpa using h2.symm)
   subst e1;subst e2;exact⟨by simp,fun c=>⟨rfl,fun D _ _=>⟨.nil _,by simp[pP]⟩⟩⟩
 | x :: xs,[],us,h1,_,_=>by simp at h1
 | x :: xs,y :: ys,[],_,h2,_=>by simp at h2
 | x :: xs,y :: ys,u :: us,h1,h2,hg=>by
   obtain⟨g1,g2⟩:=hg 0 x y u rfl rfl rfl
   obtain⟨i1,i2⟩:=S8 xs ys us (by simpa using h1) (by simpa using h2) fun i x' y' u' hx hy hu=>hg (i+1) x' y' u' (by simpa using hx) (by simpa using hy) (by simpa using hu)
   refine⟨fun k hk=>?_,fun c=>?_⟩
   ·simp only[List.flatMap_cons,List.mem_append] at hk;rcases hk with hk|hk
    ·exact g1 k hk
    ·exact i1 k hk
   ·obtain⟨l1,m1⟩:=g2 c
    obtain⟨l2,m2⟩:=i2 (c+(f c y).2.length)
    rw[l1] at l2 m2;simp only[pP,List.flatMap_cons,List.length_append,l1];refine⟨by rw[l2],fun D hD lA=>?_⟩
    obtain⟨r1,e1⟩:=m1 D hD fun i k hk=>lA i k (by rw[List.getElem?_append_left (List.getElem?_eq_some_iff.1 hk).1];exact hk)
    obtain⟨r2,e2⟩:=m2 D hD fun i k hk=>by
     have:=lA ((kf x).length+i) k (by rw[List.getElem?_append_right (by omega)];simpa using hk)
     rw[Nat.add_assoc];exact this
    refine⟨.cons r1 r2,fun i e k hi hk=>?_⟩
    by_cases bB:i<(kf x).length
    ·rw[List.getElem?_append_left (by rw[l1];exact bB)] at hi
     rw[List.getElem?_append_left bB] at hk;exact e1 i e k hi hk
    ·rw[List.getElem?_append_right (by rw[l1];omega),l1] at hi
     rw[List.getElem?_append_right (by omega)] at hk
     exact e2 _ e k hi hk
theorem Xt {α β:Type} {f:α→Option β} {l:List α} {r:List β} (h:cE (l.map f)=some r):l.length=r.length∧∀(i:Nat) x y,l[i]? = some x→r[i]? = some y→f x=some y:=by
 have hm:=jE _ _ h
 have hl:l.length=r.length:=by have:=congrArg List.length hm;simpa using this
 refine⟨hl,fun i x y hx hy=>?_⟩
 have:=congrArg (·[i]?) hm
 simp only[List.getElem?_map,hx,hy,Option.map_some,Option.some.injEq] at this;exact this
theorem aEq (S:kN F h0 w0 nt ρ st a w) (hH:∀b o,(ctx h0 w0 ρ st w).h b o→H b o) {x y:AV} {u:Value} (hu:cS (ctx h0 w0 ρ st w) x u) (h:rP st x=some y) (d:Nat):XV w0 ρ st w d H (Sv d) y (iZ x) u:=by
 cases x
 case agg cs =>
  simp only[rP,Option.map_eq_some_iff] at h;obtain⟨ds,Ql,rfl⟩:=h
  obtain⟨hl,u6⟩:=Xt Ql
  cases hu with
  | agg _ ar hla hr h1 =>
    obtain⟨g1,g2⟩:=S8 (w0:=w0) (ρ:=ρ) (st:=st) (w:=w) (H:=H) (f:=xF d) (kf:=gH) (d:=d) cs ds ar.toList hl (by simpa using hla) fun i x y v hx hy hv=>S7 S hH (hr i x v hx (by simpa using hv)) (u6 i x y hx hy) d
    refine⟨g1,fun c=>?_⟩
    obtain⟨l1,m1⟩:=g2 c
    refine⟨l1,fun D hD lA=>?_⟩
    obtain⟨r1,e1⟩:=m1 D hD lA
    exact⟨.agg _ ar (by simpa using r1.len) (fun i x y hx hy=>r1.rel i x y hx (by simpa using hy)) h1,e1⟩
 all_goals
  have g:=S7 S hH hu h d
  cases y<;>first|exact g|skip
  all_goals
   exfalso
   simp only[rP] at h;unfold kE at h;split at h
   ·simp at h
   ·simp at h
    try (split at h<;>(try split at h)<;>simp at h)
theorem aEr (S:kN F h0 w0 nt ρ st a w) (hH:∀b o,(ctx h0 w0 ρ st w).h b o→H b o) {x y:AV} {u:Value} (hu:cS (ctx h0 w0 ρ st w) x u) (h:Cb st x=some y) (d:Nat):XV w0 ρ st w d H (WE d) y (lP x) u:=by
 cases x
 case eE cs =>
  simp only[Cb,Option.map_eq_some_iff] at h;obtain⟨ds,Ql,rfl⟩:=h
  obtain⟨hl,u6⟩:=Xt Ql
  cases hu with
  | eE _ ar hla hr =>
    obtain⟨g1,g2⟩:=S8 (w0:=w0) (ρ:=ρ) (st:=st) (w:=w) (H:=H) (f:=Sv d) (kf:=iZ) (d:=d) cs ds ar.toList hl (by simpa using hla) fun i x y v hx hy hv=>aEq S hH (hr i x v hx (by simpa using hv)) (u6 i x y hx hy) d
    refine⟨g1,fun c=>?_⟩
    obtain⟨l1,m1⟩:=g2 c
    refine⟨l1,fun D hD lA=>?_⟩
    obtain⟨r1,e1⟩:=m1 D hD lA
    exact⟨.eE _ ar (by simpa using r1.len) (fun i x y hx hy=>r1.rel i x y hx (by simpa using hy)),e1⟩
 case agg cs =>
  have g:=aEq S hH hu h d
  cases y<;>first|exact g|(simp only[Cb,rP,Option.map_eq_some_iff] at h;obtain⟨_,_,h⟩:=h;cases h)
 all_goals
  have g:=S7 S hH hu h d
  cases y<;>first|exact g|skip
  all_goals
   exfalso
   simp only[Cb,rP] at h;unfold kE at h;split at h
   ·simp at h
   ·simp at h
    try (split at h<;>(try split at h)<;>simp at h)
theorem So (S:kN F h0 w0 nt ρ st a w) {x r:AV} {u:Value} (hu:cS (ctx h0 w0 ρ st w) x u) (hn:(lP x).Nodup) (h:Cb st x=some r):MR h0 w0 w r u:=by
 have hH:∀b o,(ctx h0 w0 ρ st w).h b o→newHs h0 w0 w ((lP x).map fun k=>ρ k.1 k.2) b o:=fun b o hb=>by
  have g:=(aEr (H:=(ctx h0 w0 ρ st w).h) S (fun _ _ h=>h) hu h 0).1
  refine⟨hb.1,hb.2.1,fun y hy=>?_⟩
  obtain⟨k,hk,rfl⟩:=List.mem_map.1 hy
  obtain⟨e,he⟩:=g k hk
  exact hb.2.2 _ _ e he
 have g:=fun d=>aEr S hH hu h d
 have key:∀y∈(lP x).map (fun k=>ρ k.1 k.2),∃k e,k∈lP x∧y=ρ k.1 k.2∧st.heap k.1 k.2=some e:=fun y hy=>by
  obtain⟨k,hk,rfl⟩:=List.mem_map.1 hy
  obtain⟨e,he⟩:=(g 0).1 k hk
  exact⟨k,e,hk,rfl,he⟩
 refine⟨(lP x).map fun k=>ρ k.1 k.2,fun y hy=>?_,fun i j y z b hy hz hb nP=>?_,fun y hy b hb=>?_,fun d c=>by rw[((g d).2 c).1];simp,fun D d c hD lA=>?_⟩
 ·obtain⟨k,e,_,rfl,he⟩:=key y hy
  exact (S.sA _ _ e he).2.1
 ·rw[List.getElem?_map] at hy hz;cases hi:(lP x)[i]? with
  | none=>simp[hi] at hy
  | some k=>cases hj:(lP x)[j]? with
    | none=>simp[hj] at hz
    | some k' =>
      simp only[hi,hj,Option.map_some,Option.some.injEq] at hy hz;subst hy;subst hz;obtain⟨e,he⟩:=(g 0).1 k (List.mem_of_getElem? hi)
      obtain⟨e',zS⟩:=(g 0).1 k' (List.mem_of_getElem? hj)
      obtain⟨q1,q2⟩:=S.inj _ _ _ _ e e' b he zS hb nP
      have hkk:k=k':=Prod.ext q1 q2
      subst hkk;obtain⟨hil,Bf⟩:=List.getElem?_eq_some_iff.1 hi
      obtain⟨hjl,hje⟩:=List.getElem?_eq_some_iff.1 hj
      have hp:=List.pairwise_iff_getElem.1 hn
      rcases Nat.lt_trichotomy i j with bB|heq|bB
      ·exact absurd (Bf.trans hje.symm) (hp i j hil hjl bB)
      ·exact heq
      ·exact absurd (hje.trans Bf.symm) (hp j i hjl hil bB)
 ·obtain⟨k,e,_,rfl,he⟩:=key y hy
  exact ((S.sA _ _ e he).2.2.QN b hb).1
 ·obtain⟨r1,e1⟩:=((g d).2 c).2 D hD fun i k hk=>lA i _ (by rw[List.getElem?_map,hk];rfl)
  refine⟨r1,fun i e y hi hy=>?_⟩
  rw[List.getElem?_map] at hy;cases hk:(lP x)[i]? with
  | none=>simp[hk] at hy
  | some k =>
    simp only[hk,Option.map_some,Option.some.injEq] at hy;subst hy;exact e1 i e k hi hk
end qB
theorem AU {h0:Nat→Obj→Prop} {w0:World} {F:Gf} {nt:Nat} {ρ:Nat→Nat→Value} {st:St} {a:Act} {w:World} (S:kN F h0 w0 nt ρ st a w) {fn:Func} {r:AV} (h:Md P fn st=some r) :
 ∃v,(results fn a.tmps).run P w=.ok v w∧MR h0 w0 w r v:=by
 have NK:∀(ys:List Value),(fn.results.toList.mapM (zH a.tmps)).run P w=.ok ys w →
  (results fn a.tmps).run P w=.ok (if h:ys.toArray.size=1 then ys.toArray[0] else .tuple ys.toArray) w:=by
  intro ys Tf;have e:results fn a.tmps=(do let vs ← fn.results.mapM (zH a.tmps);pure (if h:vs.size=1 then vs[0] else .tuple vs)):=by
   unfold results;congr 1
  rw[e,Array.mapM_eq_mapM_toList];simp only[Sem.run_bind,Sem.run_map,Tf,Result.andThen_ok,Sem.run_pure]
 unfold Md at h;split at h
 ·rename_i r1 F6;cases h1:jW P st r1 with
  | none=>simp[h1,cD] at h
  | some x =>
    simp only[h1,cD] at h;split at h
    ·rename_i hn;obtain⟨ys,Tf,gA⟩:=lW (P:=P) S [r1] [x] (by simp[h1])
     have hlen:=gA.len
     obtain⟨y,rfl⟩:∃y,ys=[y]:=by
      cases ys with
      | nil=>simp at hlen
      | cons y ys=>cases ys with
        | nil=>exact⟨y,rfl⟩
        | cons z zs=>simp at hlen
     have pS:=NK [y] (by rw[F6];exact Tf)
     simp at pS
     exact⟨y,pS,So S gA.head hn h⟩
    ·cases h
 ·rename_i rs gT;cases GG:cE (fn.results.toList.map fun r=>jW P st r) with
  | none=>simp[GG,cD] at h
  | some xs =>
    simp only[GG,cD] at h;split at h
    ·rename_i hn;have e1:=jE _ _ GG
     obtain⟨ys,Tf,gA⟩:=lW S _ xs e1
     have Pl:xs.length=fn.results.toList.length:=by have:=congrArg List.length e1;simpa using this.symm
     have S6:ys.toArray.size≠1:=by
      intro h1;have hlen:=gA.len
      simp only[List.size_toArray] at h1;have:fn.results.toList.length=1:=by omega
      obtain⟨z,hz⟩:=List.length_eq_one_iff.1 this
      exact gT z hz
     have pS:=NK ys Tf
     rw[dif_neg S6] at pS;exact⟨_,pS,So S (.eE xs ys.toArray (by simpa using gA.len) fun i x y hx hy=>gA.rel i x y hx (by simpa using hy)) hn h⟩
    ·cases h
theorem AW {h0:Nat→Obj→Prop} {w0:World} {F:Gf} {nt:Nat} {ρ:Nat→Nat→Value} {st:St} {a:Act} {w:World} (S:kN F h0 w0 nt ρ st a w) {f:Nat} {fn:Func} {r:AV} (h:jN P f fn st=some r) :
 ∃v,(results fn a.tmps).run P w=.ok v w∧MR h0 w0 w r v:=by
 unfold jN at h;split at h
 ·exact AU S h
 ·exact GY S h
theorem S9 {h0:Nat→Obj→Prop} {w:World} {xs:List AV} {vs:Array Value} {nt:Nat} (hh:∀b o,h0 b o→w.heap[b]? = some o) (gA:lI (bare h0) xs vs.toList) :
 kN Gf.none h0 w nt (fun _ _=>undef) (St.init xs) { tmps:=vs++Array.replicate (nt-vs.size) undef,defers:=[]} w:=by
 have k:(bare h0).Le (ctx h0 w (fun _ _=>undef) (St.init xs) w):=⟨fun b o h=>⟨hh b o h,fun _=>h,fun s g e he=>by simp[St.init] at he⟩,fun _=>Nat.le_refl _,fun _ _ h=>absurd h (by simp[bare])⟩
 refine⟨fun t=>?_,fun s g e he=>by simp[St.init] at he,fun s g s' g' e e' b he=>by simp[St.init] at he,⟨rfl,rfl,rfl,Nat.le_refl _,fun _ _ _=>rfl⟩,by simp;omega,rfl,⟨fun x v h=>h.elim,fun b o h=>h.elim,Nat.zero_le _⟩⟩
 have hlen:=gA.len
 simp only[Array.length_toList] at hlen;show cS _ ((xs[t]?).getD (.v undef)) _
 by_cases ht:t<vs.size
 ·have hx:xs[t]? = some (xs[t]'(by omega)):=by simp[show t<xs.length by omega]
  have hy:vs.toList[t]? = some vs[t]:=by simp[ht]
  have:=(gA.rel t _ _ hx hy).le k
  rw[hx];simp only[Option.getD_some];have e:(vs++Array.replicate (nt-vs.size) undef).getD t undef=vs[t]:=by
   simp[Array.getElem?_append_left ht,ht]
  rw[e];exact this
 ·have hx:xs[t]? = none:=List.getElem?_eq_none (by omega)
  rw[hx];have e:(vs++Array.replicate (nt-vs.size) undef).getD t undef=undef:=by
   rw[Array.getD_eq_getD_getElem?,Array.getElem?_append_right (by omega),Array.getElem?_replicate]
   split<;>rfl
  rw[e];exact .v _
def MJ (P:Program):Prop:=qQ P Ext.ext
theorem aBY {h0:Nat→Obj→Prop} {w0:World} {F:Gf} {nt:Nat} {ρ:Nat→Nat→Value} {st:St} {a:Act} {w:World} (S:kN F h0 w0 nt ρ st a w) {xs:List AV} {vs:Array Value} {n:Nat} (gA:lI (ctx h0 w0 ρ st w) xs vs.toList) :
 kN ⟨fun x v=>F.fr x v∨∃t,x=st.env t∧v=a.tmps.getD t undef,F.hb,F.sz⟩ h0 w0 n ρ ((St.init xs).back st) { tmps:=vs++Array.replicate (n-vs.size) undef,defers:=[]} w:=by
 have hc:ctx h0 w0 ρ ((St.init xs).back st) w=ctx h0 w0 ρ st w:=rfl
 refine⟨fun t=>?_,fun s g e he=>?_,fun s g s' g' e e' b he zS=>S.inj s g s' g' e e' b he zS,S.ext,by simp;omega,rfl,⟨fun x v h=>?_,S.Lz.2.1,S.Lz.2.2⟩⟩
 ·have hlen:=gA.len
  simp only[Array.length_toList] at hlen;show cS _ ((xs[t]?).getD (.v undef)) _
  by_cases ht:t<vs.size
  ·have hx:xs[t]? = some (xs[t]'(by omega)):=by simp[show t<xs.length by omega]
   have hy:vs.toList[t]? = some vs[t]:=by simp[ht]
   have:=gA.rel t _ _ hx hy
   rw[hx];simp only[Option.getD_some];have e:(vs++Array.replicate (n-vs.size) undef).getD t undef=vs[t]:=by
    simp[Array.getElem?_append_left ht,ht]
   rw[e];exact this
  ·have hx:xs[t]? = none:=List.getElem?_eq_none (by omega)
   rw[hx];have e:(vs++Array.replicate (n-vs.size) undef).getD t undef=undef:=by
    rw[Array.getD_eq_getD_getElem?,Array.getElem?_append_right (by omega),Array.getElem?_replicate]
    split<;>rfl
   rw[e];exact .v _
 ·exact S.sA s g e he
 ·rcases h with h|⟨t,rfl,rfl⟩
  ·exact S.Lz.1 x v h
  ·exact S.env t
theorem AX {h0:Nat→Obj→Prop} {w0:World} {F:Gf} {nt:Nat} {ρ:Nat→Nat→Value} {st:St} {a:Act} {w:World} (S:kN F h0 w0 nt ρ st a w) {fn:Func} {r:AV} (h:Ac P fn st=some r) :
 ∃v,(results fn a.tmps).run P w=.ok v w∧cS (ctx h0 w0 ρ st w) r v:=by
 have NK:∀(ys:List Value),(fn.results.toList.mapM (zH a.tmps)).run P w=.ok ys w →
  (results fn a.tmps).run P w=.ok (if h:ys.toArray.size=1 then ys.toArray[0] else .tuple ys.toArray) w:=by
  intro ys Tf;have e:results fn a.tmps=(do let vs ← fn.results.mapM (zH a.tmps);pure (if h:vs.size=1 then vs[0] else .tuple vs)):=by
   unfold results;congr 1
  rw[e,Array.mapM_eq_mapM_toList];simp only[Sem.run_bind,Sem.run_map,Tf,Result.andThen_ok,Sem.run_pure]
 unfold Ac at h;split at h
 ·rename_i r1 F6;obtain⟨ys,Tf,gA⟩:=lW (P:=P) S [r1] [r] (by simp[h])
  have hlen:=gA.len
  obtain⟨y,rfl⟩:∃y,ys=[y]:=by
   cases ys with
   | nil=>simp at hlen
   | cons y ys=>cases ys with
     | nil=>exact⟨y,rfl⟩
     | cons z zs=>simp at hlen
  have pS:=NK [y] (by rw[F6];exact Tf)
  simp at pS
  exact⟨y,pS,gA.head⟩
 ·rename_i rs gT;cases GG:cE (fn.results.toList.map fun r=>jW P st r) with
  | none=>simp[GG] at h
  | some xs =>
    simp only[GG,Option.map_some,Option.some.injEq] at h;subst h;have e1:=jE _ _ GG
    obtain⟨ys,Tf,gA⟩:=lW S _ xs e1
    have Pl:xs.length=fn.results.toList.length:=by have:=congrArg List.length e1;simpa using this.symm
    have S6:ys.toArray.size≠1:=by
     intro h1;have hlen:=gA.len
     simp only[List.size_toArray] at h1;have:fn.results.toList.length=1:=by omega
     obtain⟨z,hz⟩:=List.length_eq_one_iff.1 this
     exact gT z hz
    have pS:=NK ys Tf
    rw[dif_neg S6] at pS;exact⟨_,pS,.eE xs ys.toArray (by simpa using gA.len) fun i x y hx hy=>gA.rel i x y hx (by simpa using hy)⟩
theorem AY {xs:List AV} {u:Nat × Nat × Nat × List AV × List AV} (h:tN xs=some u):xs=.uniq u.1 u.2.1 u.2.2.1 u.2.2.2.1 :: u.2.2.2.2:=by
 unfold tN at h;split at h
 ·simp only[Option.some.injEq] at h;subst h;rfl
 ·cases h
theorem y9 {h0:Nat→Obj→Prop} {w:World} {v0:Value} {e sz m:Nat} {cs xs:List AV} {ys:List Value} {vs:Array Value} {nt:Nat} (hh:∀b o,h0 b o→w.heap[b]? = some o) (gT:∀b o,h0 b o→dD v0≠some b) (ho:nX w 0 e sz v0 m ys) (hc:gB (bare h0) cs ys) (gA:lI (bare h0) xs vs.toList) :
 kN ⟨fun _ _=>False,fun b o=>w.heap[b]? = some o∧dD v0≠some b,w.heap.size⟩ h0 { w with heap:=#[]} nt (fun s g=>if s=0∧g=0 then v0 else undef) (St.sQ e sz m cs xs) { tmps:=(#[v0]++vs)++Array.replicate (nt-(#[v0]++vs).size) undef,defers:=[]} w:=by
 have zG:∀s g e',(St.sQ e sz m cs xs).heap s g=some e'→s=0∧g=0∧e'=.row e sz m cs:=fun s g e' h=>by
  simp only[St.sQ] at h;split at h
  ·rename_i h1;cases h;exact⟨h1.1,h1.2,rfl⟩
  ·cases h
 have k:(bare h0).Le (ctx h0 { w with heap:=#[]} (fun s g=>if s=0∧g=0 then v0 else undef) (St.sQ e sz m cs xs) w) :=
  ⟨fun b o h=>⟨hh b o h,fun bB=>by simp at bB,fun s g e' he=>by
   obtain⟨rfl,rfl,_⟩:=zG _ _ _ he
   exact gT b o h⟩,fun _=>Nat.zero_le _,fun _ _ h=>absurd h (by simp[bare])⟩
 refine⟨fun t=>?_,fun s g e' he=>?_,fun s g s' g' e1 e2 b he zS _ _=>?_,⟨rfl,rfl,rfl,Nat.zero_le _,fun b hb _=>by simp at hb⟩,by simp;omega,rfl,⟨fun x v h=>h.elim,fun b o h=>⟨h.1,fun bB=>by simp at bB,fun s g e' he=>?_⟩,Nat.le_refl _⟩⟩
 ·have hlen:=gA.len
  simp only[Array.length_toList] at hlen;cases t with
  | zero =>
    have e0:((#[v0]++vs)++Array.replicate (nt-(#[v0]++vs).size) undef).getD 0 undef=v0:=by
     simp[Array.getElem?_append]
    rw[e0];have:=cS.own (C:=ctx h0 { w with heap:=#[]} (fun s g=>if s=0∧g=0 then v0 else undef) (St.sQ e sz m cs xs) w) 0 0 (by show 0<(St.sQ e sz m cs xs).aQ 0;simp[St.sQ]) (by show (if (0:Nat)=0∧(0:Nat)=0 then v0 else undef).oneCell'=true;simp;exact sR ho)
    have e1:(ctx h0 { w with heap:=#[]} (fun s g=>if s=0∧g=0 then v0 else undef) (St.sQ e sz m cs xs) w).ρ 0 0=v0:=by show (if (0:Nat)=0∧(0:Nat)=0 then v0 else undef)=v0;simp
    rw[e1] at this;exact this
  | succ t =>
    show cS _ ((xs[t]?).getD (.v undef)) _
    by_cases ht:t<vs.size
    ·have hx:xs[t]? = some (xs[t]'(by omega)):=by simp[show t<xs.length by omega]
     have hy:vs.toList[t]? = some vs[t]:=by simp[ht]
     have:=(gA.rel t _ _ hx hy).le k
     rw[hx];simp only[Option.getD_some];have e2:((#[v0]++vs)++Array.replicate (nt-(#[v0]++vs).size) undef).getD (t+1) undef=vs[t]:=by
      rw[Array.getD_eq_getD_getElem?,Array.getElem?_append_left (by simp;omega),Array.getElem?_append_right (by simp)]
      simp[ht]
     rw[e2];exact this
    ·have hx:xs[t]? = none:=List.getElem?_eq_none (by omega)
     rw[hx];have e2:((#[v0]++vs)++Array.replicate (nt-(#[v0]++vs).size) undef).getD (t+1) undef=undef:=by
      rw[Array.getD_eq_getD_getElem?,Array.getElem?_append_right (by simp;omega),Array.getElem?_replicate]
      split<;>rfl
     rw[e2];exact .v _
 ·obtain⟨rfl,rfl,rfl⟩:=zG _ _ _ he
  refine⟨by simp[St.sQ],by simp;exact sR ho, ?_⟩
  simp only[and_self,if_true];exact⟨ys,ho,hc.le k⟩
 ·obtain⟨rfl,rfl,_⟩:=zG _ _ _ he
  obtain⟨rfl,rfl,_⟩:=zG _ _ _ zS
  exact⟨rfl,rfl⟩
 ·obtain⟨rfl,rfl,_⟩:=zG _ _ _ he
  exact h.2
theorem aBZ (hm:P.follows .mixedOrders=true) {call:Nat→List AV→Option AV} {inl:Nat→List AV→St→Option (AV × St)} (kA:qQ P call) (Nz:Xn P inl) {n g:Nat} {xs:List AV} {u:Nat × Nat × Nat × List AV × List AV} (hq:tN xs=some u) {r:AV}
 (h:runM P call inl n g u.1 u.2.1 u.2.2.1 u.2.2.2.1 u.2.2.2.2=some r):Ha P g∧Gy P g xs r:=by
 have GG:=AY hq
 subst GG;obtain⟨e,sz,m,cs,rest⟩:=u
 simp only at h ⊢
 unfold runM at h;cases hf:P.funcs[g]? with
 | none=>simp[hf] at h
 | some fn =>
   simp only[hf] at h;split at h
   ·rename_i pM;cases hb:fn.body with
    | none=>simp[hb] at h
    | some c =>
      simp only[hb] at h;simp only[tL,CF,hb,Bool.and_eq_true,bne_iff_ne,ne_eq] at pM;refine⟨⟨fn,hf,by simpa using pM.1,by simp[hb]⟩, ?_⟩
      show TJ P g e sz m cs rest r
      intro w h0 v0 ys vs hh gT ho Bg gA;cases h1:uG P (nN c) call inl n c (St.sQ e sz m cs rest) with
      | none=>simp[h1,cD] at h
      | some es =>
        obtain⟨ex,sf⟩:=es
        simp only[h1,cD] at h;refine calls_of_wp hf hb ?_
        refine pN hm kA Nz n c (St.sQ e sz m cs rest) sf ex _ _ w _ pM.2 (y9 hh gT ho Bg gA) h1 fun nU a' w' S'=>?_
        have fin:Aa P fn sf=some r→∃e' tF n' Dj,r=.uniq e' tF n' Dj∧a'.defers=[]∧∃v',(results fn a'.tmps).run P w'=.ok v' w'∧w.grownBy w' (dD v0) ∧
         ∃zs,nX w' 0 e' tF v' n' zs∧gB (bare h0) Dj zs∧∀b,dD v'=some b→dD v0=some b∨w.heap.size≤b:=fun h=>by
         unfold Aa at h;split at h
         ·rename_i r1 F6;split at h
          ·rename_i s k hrv;split at h
           ·rename_i e' tF n' Dj hhp
            split at h
            ·rename_i hmf;simp only[Option.some.injEq] at h;subst h;obtain⟨y,hy,Ns⟩:=lW (P:=P) S' [r1] [.own s k] (by simp[hrv])
             have hlen:=Ns.len
             obtain⟨z,rfl⟩:∃z,y=[z]:=by
              cases y with
              | nil=>simp at hlen
              | cons y ys=>cases ys with
                | nil=>exact⟨y,rfl⟩
                | cons z zs=>simp at hlen
             have hz:z=nU s k:=by
              have:=Ns.head
              cases this
              rfl
             subst hz;have pS:(results fn a'.tmps).run P w'=.ok (nU s k) w':=by
              have e1:results fn a'.tmps=(do let vs ← fn.results.mapM (zH a'.tmps);pure (if h:vs.size=1 then vs[0] else .tuple vs)):=by
               unfold results;congr 1
              rw[e1,Array.mapM_eq_mapM_toList,F6];simp only[Sem.run_bind,Sem.run_map,hy,Result.andThen_ok,Sem.run_pure];simp
             obtain⟨_,_,zs,hzo,Q7⟩:=S'.sA s k _ hhp
             obtain⟨_,hkb,XQ⟩:=S'.Lz
             refine⟨e',tF,n',Dj,rfl,S'.defers,_,pS,⟨S'.ext.os,S'.ext.tape,S'.ext.output,XQ,fun b hb hnb=>?_⟩,zs, ?_, ?_,fun b hb=>?_⟩
             ·have MT:w.heap[b]? = some w.heap[b]:=Array.getElem?_eq_getElem hb
              rw[MT];exact (hkb b _ ⟨MT,fun h=>hnb h.symm⟩).1
             ·exact yE hzo (Nat.zero_le _)
             ·exact⟨Q7.len,fun i x y hx hy=>(Q7.rel i x y hx hy).Nq (hmf x (List.mem_of_getElem? hx)),Q7.one⟩
             ·by_cases h1:dD v0=some b
              ·exact .inl h1
              ·right
               rcases Nat.lt_or_ge b w.heap.size with bB|hge
               ·exfalso
                have MT:w.heap[b]? = some w.heap[b]:=Array.getElem?_eq_getElem bB
                exact (hkb b _ ⟨MT,h1⟩).2.2 s k _ hhp hb
               ·exact hge
            ·cases h
           ·cases h
          ·rename_i s k n0 hrv;split at h
           ·rename_i e' tF n' Dj hhp
            split at h
            ·rename_i hmf;obtain⟨Fy,hcl',hmf⟩:=hmf
             simp only[Option.some.injEq] at h;subst h;obtain⟨y,hy,Ns⟩:=lW (P:=P) S' [r1] [.vw s k 0 n0] (by simp[hrv])
             have hlen:=Ns.len
             obtain⟨z,rfl⟩:∃z,y=[z]:=by
              cases y with
              | nil=>simp at hlen
              | cons y ys=>cases ys with
                | nil=>exact⟨y,rfl⟩
                | cons z zs=>simp at hlen
             obtain⟨_,_,zs,hzo,Q7⟩:=S'.sA s k _ hhp
             obtain⟨_,hkb,XQ⟩:=S'.Lz
             have hz:∃b cap cur,z=.slice (some ⟨b,0,none⟩) n0 cap∧dD (nU s k)=some b∧w'.heap[b]? = some (.cells cur e' (0,0))∧n0≤cap∧cap≤maxLen∧cur.size=cap * tF∧cur.toList.take (n' * tF)=zs∧0<cap:=by
              have hv:=Ns.head
              cases hv with
              | vw _ _ _ _ b cap hg hb mS yD =>
                have nP:dD (nU s k)=some b:=hb
                rcases hzo.2 with ⟨q,lA,hn⟩|⟨b',Zv,cur,lA,wD,hh,u7,p9,GF,ht,qD⟩
                ·rw[lA,pL] at nP;cases nP
                ·have wL:b'=b:=by rw[lA,jY qD] at nP;simpa using nP
                 subst wL;have hcc:cap=Zv:=yD rfl _ _ _ lA
                 subst hcc;exact⟨b',cap,cur,rfl,nP,hh,mS,p9,GF,ht,qD⟩
             obtain⟨b,cap,cur,rfl,hbk,hhb,mS,p9,GF,ht,qD⟩:=hz
             have pS:(results fn a'.tmps).run P w'=.ok (.slice (some ⟨b,0,none⟩) n0 cap) w':=by
              have e1:results fn a'.tmps=(do let vs ← fn.results.mapM (zH a'.tmps);pure (if h:vs.size=1 then vs[0] else .tuple vs)):=by
               unfold results;congr 1
              rw[e1,Array.mapM_eq_mapM_toList,F6];simp only[Sem.run_bind,Sem.run_map,hy,Result.andThen_ok,Sem.run_pure];simp
             have hks:n0 * tF≤n' * tF:=Nat.mul_le_mul_right _ Fy
             refine⟨e',tF,n0,_,rfl,S'.defers,_,pS,⟨S'.ext.os,S'.ext.tape,S'.ext.output,XQ,fun b hb hnb=>?_⟩,zs.take (n0 * tF), ?_, ?_,fun b1 RA=>?_⟩
             ·have MT:w.heap[b]? = some w.heap[b]:=Array.getElem?_eq_getElem hb
              rw[MT];exact (hkb b _ ⟨MT,fun h=>hnb h.symm⟩).1
             ·refine⟨by rw[List.length_take,hzo.1];omega,.inr ⟨b,cap,cur,rfl,Nat.zero_le _,hhb,mS,p9,GF, ?_,qD⟩⟩
              rw[← ht,List.take_take,Nat.min_eq_left hks]
             ·have hz2:gB (bare h0) Dj zs:=⟨Q7.len,fun i x y hx hy=>(Q7.rel i x y hx hy).Nq (hmf x (List.mem_of_getElem? hx)),Q7.one⟩
              exact hz2.take _
             ·rw[jY qD] at RA;simp only[Option.some.injEq] at RA;subst RA;by_cases h1:dD v0=some b
              ·exact .inl h1
              ·right
               rcases Nat.lt_or_ge b w.heap.size with bB|hge
               ·exfalso
                have MT:w.heap[b]? = some w.heap[b]:=Array.getElem?_eq_getElem bB
                exact (hkb b _ ⟨MT,h1⟩).2.2 s k _ hhp hbk
               ·exact hge
            ·cases h
           ·cases h
          ·cases h
         ·cases h
        cases ex with
        | normal=>obtain⟨e',tF,n',Dj,rfl,h1,v',h2,h3,h4⟩:=fin h;exact⟨h1,v',h2,v',rfl,h3,h4⟩
        | ret=>obtain⟨e',tF,n',Dj,rfl,h1,v',h2,h3,h4⟩:=fin h;exact⟨h1,v',h2,v',rfl,h3,h4⟩
        | exit id=>cases h
   ·cases h
theorem XW (hm:P.follows .mixedOrders=true) (hx:MJ P):∀n,qQ P (Ly P n)∧Xn P (Ut P n)
 | 0=>⟨fun g xs r h=>hx g xs r h,fun g xs st r s' h=>by cases h⟩
 | n+1=>by
   obtain⟨ihc,ihi⟩:=XW hm hx n
   refine⟨fun g xs r h=>?_,fun g xs st r s' h=>?_⟩
   ·rw[yC] at h;split at h
    ·rename_i r' he
     simp only[Option.some.injEq] at h;subst h;exact hx g xs _ he
    ·cases hq:tN xs with
     | some u =>
       simp only[hq] at h;exact aBZ hm ihc ihi hq h
     | none =>
     simp only[hq] at h;split at h
     ·cases h
     rename_i hnu;unfold YM at h;cases hf:P.funcs[g]? with
     | none=>simp[hf] at h
     | some fn =>
       simp only[hf] at h;split at h
       ·rename_i pM;cases hb:fn.body with
        | none=>simp[hb] at h
        | some c =>
          simp only[hb] at h;simp only[tL,CF,hb,Bool.and_eq_true,bne_iff_ne,ne_eq] at pM;have hX:FY P g xs r→Gy P g xs r:=fun h=>by
           unfold Gy;split
           ·simp[tM] at hnu
           ·exact h
          refine⟨⟨fn,hf,by simpa using pM.1,by simp[hb]⟩,hX fun w h0 vs hh gA=>?_⟩
          cases h1:uG P (nN c) (Ly P n) (Ut P n) n c (St.init xs) with
          | none=>simp[h1,cD] at h
          | some es =>
            obtain⟨ex,sf⟩:=es
            simp only[h1,cD] at h;refine calls_of_wp hf hb ?_
            refine pN hm ihc ihi n c (St.init xs) sf ex _ _ w _ pM.2 (S9 hh gA) h1 fun nU a' w' S'=>?_
            have fin:jN P g fn sf=some r→a'.defers=[]∧∃v,(results fn a'.tmps).run P w'=.ok v w'∧∃v',Ending.returned v=.returned v'∧MR h0 w w' r v'∧w.grownBy w' none:=fun h=>by
             obtain⟨v,hv,hr⟩:=AW S' h
             exact⟨S'.defers,v,hv,v,rfl,hr,S'.ext⟩
            cases ex with
            | normal=>exact fin h
            | ret=>exact fin h
            | exit id=>cases h
       ·cases h
   ·rw[Mf] at h;unfold YN at h;cases hf:P.funcs[g]? with
    | none=>simp[hf] at h
    | some fn =>
      simp only[hf] at h;split at h
      ·rename_i pM;cases hb:fn.body with
       | none=>simp[hb] at h
       | some c =>
         simp only[hb] at h;simp only[CF,hb,Bool.and_eq_true,bne_iff_ne,ne_eq] at pM;refine⟨⟨fn,hf,by simpa using pM.1,by simp[hb]⟩,fun F h0 w0 nt ρ a w vs K S gA hK=>?_⟩
         cases h1:uG P true (Ly P n) (Ut P n) n c ((St.init xs).back st) with
         | none=>simp[h1,cD] at h
         | some es =>
           obtain⟨ex,sf⟩:=es
           simp only[h1,cD] at h;refine calls_of_wp hf hb ?_
           refine pN (F:=⟨fun x v=>F.fr x v∨∃t,x=st.env t∧v=a.tmps.getD t undef,F.hb,F.sz⟩) hm ihc ihi n c ((St.init xs).back st) sf ex _ _ w _ pM.2 (aBY S gA) h1 fun nU a' w' S'=>?_
           have fin:((Ac P fn sf).map fun x=>(x,sf))=some (r,s')→a'.defers=[]∧∃v,(results fn a'.tmps).run P w'=.ok v w'∧∃v',Ending.returned v=.returned v'∧K v' w':=fun h=>by
            cases hfi:Ac P fn sf with
            | none=>simp[hfi] at h
            | some x =>
              simp only[hfi,Option.map_some,Option.some.injEq,Prod.mk.injEq] at h;obtain⟨rfl,rfl⟩:=h
              obtain⟨v,hv,hr⟩:=AX S' hfi
              refine⟨S'.defers,v,hv,v,rfl,hK nU w' v ?_ hr⟩
              exact⟨fun t=>S'.Lz.1 _ _ (.inr ⟨t,rfl,rfl⟩),fun s g e he=>S'.sA s g e he,fun s g s2 g' e e' b he zS=>S'.inj s g s2 g' e e' b he zS,S'.ext,S.size,S.defers,⟨fun x v h=>S'.Lz.1 x v (.inl h),S'.Lz.2.1,S'.Lz.2.2⟩⟩
           cases ex with
           | normal=>exact fin h
           | ret=>exact fin h
           | exit id=>cases h
      ·cases h
theorem aFS (hm:P.follows .mixedOrders=true) (hx:MJ P) (n:Nat):qQ P (Ly P n):=(XW hm hx n).1
end
end Go.Ab
end
section
namespace Go.Ab
open Classical
variable [Ext]
noncomputable def mA {α:Type} (g:Nat→Option α):Option α:=if h:∃n r,g n=some r then some (Classical.choose (Classical.choose_spec h)) else none
theorem Um {α:Type} {g:Nat→Option α} (hm:∀n r,g n=some r→g (n+1)=some r) {n m:Nat} (h:n≤m) {r:α} (hr:g n=some r):g m=some r:=by
 induction m with
 | zero=>have:n=0:=by omega
         subst this;exact hr
 | succ m ih =>
   rcases Nat.lt_or_ge m n with h'|h'
   ·have:n=m+1:=by omega
    subst this;exact hr
   ·exact hm m r (ih h')
theorem GZ {α:Type} {g:Nat→Option α} (hm:∀n r,g n=some r→g (n+1)=some r) (r:α):mA g=some r↔∃n,g n=some r:=by
 unfold mA;constructor
 ·intro h;split at h
  ·rename_i hh;simp only[Option.some.injEq] at h;exact⟨Classical.choose hh,by rw[← h];exact Classical.choose_spec (Classical.choose_spec hh)⟩
  ·cases h
 ·rintro⟨n,hn⟩
  have hh:∃n r,g n=some r:=⟨n,r,hn⟩
  rw[dif_pos hh];have h2:=Classical.choose_spec (Classical.choose_spec hh)
  congr 1
  rcases Nat.le_total n (Classical.choose hh) with hle|hle
  ·have:=Um hm hle hn
   rw[h2] at this;exact Option.some.inj this
  ·have:=Um hm hle h2
   rw[hn] at this;exact (Option.some.inj this).symm
theorem fP {α β:Type} {x:Option α} {f:α→Option β} {r:β}:cD x f=some r↔∃a,x=some a∧f a=some r:=by
 cases x<;>simp[cD]
def Xu (i i':Nat→List AV→St→Option (AV × St)):Prop:=∀g xs st r,i g xs st=some r→i' g xs st=some r
def vI (c c':Nat→List AV→Option AV):Prop:=∀g xs r,c g xs=some r→c' g xs=some r
section
variable (P:Program) {c c':Nat→List AV→Option AV} {i i':Nat→List AV→St→Option (AV × St)} {bi:Bool}
theorem Xv {α β:Type} {x y:Option α} {f:α→Option β} {r:β} (h:∀a,x=some a→y=some a) (hx:cD x f=some r):cD y f=some r:=by
 cases Il:x with
 | none=>simp[Il,cD] at hx
 | some a=>rw[h a Il];rw[Il] at hx;exact hx
theorem Av (h:vI c c') {g:Nat} {args:List AV} {st:St} {dst:Option Nat} {e:qT} (he:aN c g args st dst=some e):aN c' g args st dst=some e:=by
 unfold aN at *
 split at he
 ·rename_i hf;rw[if_pos hf];exact Xv (h g args) he
 ·rename_i hf;rw[if_neg hf];split at he
  ·rename_i xs GG;exact Xv (h g xs) he
  ·cases he
theorem NL (h:vI c c') {g:Nat} {args:List AV} {st:St} {dst:Option Nat} {e:qT} (he:lH c g args st dst=some e):lH c' g args st dst=some e:=by
 unfold lH at *
 split at he
 ·split at he
  ·rename_i e0 sz n cs hh;split at he
   ·rename_i hc;rename_i rest _;simp only[hh,if_pos hc];cases hr:c g (.uniq e0 sz n cs :: rest) with
    | none=>simp[hr] at he
    | some r=>rw[h _ _ _ hr];rw[hr] at he;exact he
   ·cases he
  ·cases he
 ·split at he
  ·rename_i hc;rw[if_pos hc];exact Av h he
  ·cases he
theorem HA (h:vI c c') {g:Nat} {args:List AV} {st:St} {dst:Option Nat} {e:qT} (he:fC c g args st dst=some e):fC c' g args st dst=some e:=by
 unfold fC at *
 split at he
 ·rename_i s k hk;split at he
  ·rename_i pM;rw[if_pos pM];split at he
   ·rename_i xs GG;exact Xv (h g xs) he
   ·cases he
  ·cases he
 ·rename_i hk;exact Av h he
theorem HB (h:vI c c') {f:Operand} {args:List AV} {st:St} {dst:Option Nat} {e:qT} (he:nM c f args st dst=some e):nM c' f args st dst=some e:=by
 cases f
 case func g =>
  simp only[nM] at *
  by_cases hm:Ext.mv g=true
  ·rw[if_pos hm] at *
   exact NL h he
  ·rw[if_neg hm] at *
   by_cases hm2:Ext.eat g dst=true
   ·rw[if_pos hm2] at *
    exact HA h he
   ·rw[if_neg hm2] at *
    exact Av h he
 all_goals
  simp only[nM] at *
  split at he
  ·exact Av h he
  ·cases he
theorem UC (h:vI c c') {o:Oper} {st:St} {e:qT} (he:dI P c o st=some e):dI P c' o st=some e:=by
 obtain⟨dst,op,type,pos,after,guard⟩:=o
 cases op
 case call cl =>
  simp only[dI] at *
  unfold iE at *
  split at he
  ·exact HB h he
  all_goals exact he
 case makeMap T r=>cases r<;>exact he
 all_goals exact he
theorem z4 (h:vI c c') {ops:Array Oper} {o:Oper} {st s:St} (he:bZ P c ops o st=some s):bZ P c' ops o st=some s:=by
 unfold bZ at *
 split at he
 ·split at he
  ·rename_i b hg hb;rw[if_pos hb];cases h1:dI P c o st with
   | none=>simp[h1] at he
   | some e=>rw[UC P h h1];rw[h1] at he;exact he
  ·rename_i b hg hb;rw[if_neg hb];exact he
 ·cases he
theorem Xw (h:vI c c') (hi:Xu i i') {ops:Array Oper} {o:Oper} {st s:St} (he:gN P bi c i ops o st=some s):gN P bi c' i' ops o st=some s:=by
 unfold gN at he ⊢
 cases hg:(if bi=true then Ew o else none) with
 | none =>
   simp only[hg] at he ⊢;exact z4 P h he
 | some ga =>
   obtain⟨g,args⟩:=ga
   simp only[hg] at he ⊢;cases R5:gv ops st o.guard with
   | none=>simp[R5] at he
   | some t =>
     simp only[R5] at he ⊢;cases t with
     | false=>exact he
     | true =>
       simp only[if_true] at he ⊢;cases h1:i g (args.map st.ev) st with
       | none=>simp[h1] at he
       | some r=>rw[hi _ _ _ _ h1];rw[h1] at he;exact he
theorem Aw (h:vI c c') (hi:Xu i i') {ops:Array Oper}:∀(l:List Oper) {st s:St},mG P bi c i ops l st=some s→mG P bi c' i' ops l st=some s
 | [],st,s,he=>he
 | o :: l,st,s,he=>by
   simp only[mG] at *
   obtain⟨s1,h1,h2⟩:=fP.1 he
   exact fP.2 ⟨s1,Xw P h hi h1,Aw h hi l h2⟩
theorem oH (h:vI c c') (hi:Xu i i'):∀(n m:Nat),n≤m→∀(x:Code) (st:St) (r:Ex × St),uG P bi c i n x st=some r→uG P bi c' i' m x st=some r
 | 0,_,_,_,_,_,he=>by simp[uG] at he
 | n+1,0,hle,_,_,_,_=>by omega
 | n+1,m+1,hle,x,st,r,he=>by
   have ih:=oH h hi n m (by omega)
   cases x<;>simp only[uG] at he ⊢<;>(try exact he)
   case region id ops draw =>
    obtain⟨s1,h1,h2⟩:=fP.1 he
    exact fP.2 ⟨s1,Aw P h hi _ h1,h2⟩
   case seq a b =>
    obtain⟨⟨e1,s1⟩,h1,h2⟩:=fP.1 he
    refine fP.2 ⟨(e1,s1),ih _ _ _ h1, ?_⟩
    cases e1 with
    | normal=>exact ih _ _ _ h2
    | _=>exact h2
   case cond cc a b =>
    split at he
    ·split at he
     ·rename_i hb;rw[if_pos hb];exact ih _ _ _ he
     ·rename_i hb;rw[if_neg hb];exact ih _ _ _ he
    ·cases he
   case block id b =>
    obtain⟨r1,h1,h2⟩:=fP.1 he
    exact fP.2 ⟨r1,ih _ _ _ h1,h2⟩
   case loop b =>
    obtain⟨⟨e1,s1⟩,h1,h2⟩:=fP.1 he
    refine fP.2 ⟨(e1,s1),ih _ _ _ h1, ?_⟩
    cases e1 with
    | normal=>exact ih _ _ _ h2
    | _=>exact h2
theorem Qs:∀n,vI (Ly P n) (Ly P (n+1))∧Xu (Ut P n) (Ut P (n+1))
 | 0=>⟨fun g xs r h=>by
   rw[Uu] at h;rw[yC,h],fun g xs st r h=>by cases h⟩
 | n+1=>by
   obtain⟨ih,ii⟩:=Qs n
   refine⟨fun g xs r h=>?_,fun g xs st r h=>?_⟩
   ·rw[yC] at h ⊢;cases he:Ext.ext g xs with
    | some r'=>rw[he] at h;exact h
    | none =>
      simp only[he] at h;simp only
      cases hq:tN xs with
      | some u =>
        simp only[hq] at h;simp only
        unfold runM at h ⊢
        split at h
        ·split at h
         ·rename_i pM;rw[if_pos pM];split at h
          ·obtain⟨r1,h1,h2⟩:=fP.1 h
           exact fP.2 ⟨r1,oH P ih ii n (n+1) (by omega) _ _ _ h1,h2⟩
          ·cases h
         ·cases h
        ·cases h
      | none =>
        simp only[hq] at h;simp only
        by_cases hu:xs.any tM=true
        ·rw[if_pos hu] at h;cases h
        ·rw[if_neg hu] at h ⊢;unfold YM at h ⊢
         split at h
         ·split at h
          ·rename_i pM;rw[if_pos pM];split at h
           ·obtain⟨r1,h1,h2⟩:=fP.1 h
            exact fP.2 ⟨r1,oH P ih ii n (n+1) (by omega) _ _ _ h1,h2⟩
           ·cases h
          ·cases h
         ·cases h
   ·rw[Mf] at h ⊢;unfold YN at h ⊢
    split at h
    ·split at h
     ·rename_i pM;rw[if_pos pM];split at h
      ·obtain⟨r1,h1,h2⟩:=fP.1 h
       exact fP.2 ⟨r1,oH P ih ii n (n+1) (by omega) _ _ _ h1,h2⟩
      ·cases h
     ·cases h
    ·cases h
theorem Xx (n:Nat):vI (Ly P n) (Ly P (n+1)):=(Qs P n).1
theorem Xy (n:Nat):Xu (Ut P n) (Ut P (n+1)):=(Qs P n).2
theorem Br {n m:Nat} (h:n≤m):vI (Ly P n) (Ly P m):=fun g xs r hr =>
 Um (g:=fun n=>Ly P n g xs) (fun n r=>Xx P n g xs r) h hr
theorem Bs {n m:Nat} (h:n≤m):Xu (Ut P n) (Ut P m):=fun g xs st r hr =>
 Um (g:=fun n=>Ut P n g xs st) (fun n r=>Xy P n g xs st r) h hr
noncomputable def aC (f:Nat) (xs:List AV):Option AV:=mA fun n=>Ly P n f xs
noncomputable def Co (f:Nat) (xs:List AV) (st:St):Option (AV × St):=mA fun n=>Ut P n f xs st
noncomputable def wA (bi:Bool) (x:Code) (st:St):Option (Ex × St):=mA fun n=>uG P bi (Ly P n) (Ut P n) n x st
theorem yB {f:Nat} {xs:List AV} {r:AV}:aC P f xs=some r↔∃n,Ly P n f xs=some r:=GZ (fun n r=>Xx P n f xs r) r
theorem Xz {f:Nat} {xs:List AV} {st:St} {r:AV × St}:Co P f xs st=some r↔∃n,Ut P n f xs st=some r:=GZ (fun n r=>Xy P n f xs st r) r
theorem gL {x:Code} {st:St} {r:Ex × St}:wA P bi x st=some r↔∃n m,uG P bi (Ly P n) (Ut P n) m x st=some r:=by
 unfold wA;rw[GZ (fun n r=>oH P (Xx P n) (Xy P n) n (n+1) (by omega) x st r)]
 constructor
 ·rintro⟨n,h⟩;exact⟨n,n,h⟩
 ·rintro⟨n,m,h⟩
  exact⟨max n m,oH P (Br P (Nat.le_max_left n m)) (Bs P (Nat.le_max_left n m)) m _ (Nat.le_max_right n m) x st r h⟩
theorem TE (hm:P.follows .mixedOrders=true) (hx:MJ P) {f:Nat} {xs:List AV} {r:AV} (h:aC P f xs=some r):Gy P f xs r:=by
 obtain⟨n,hn⟩:=(yB P).1 h
 exact (aFS hm hx n f xs r hn).2
theorem aB0 (n:Nat):Xu (Ut P n) (Co P):=fun g xs st r h=>(Xz P).2 ⟨n,h⟩
theorem T3 (n:Nat):vI (Ly P n) (aC P):=fun g xs r h=>(yB P).2 ⟨n,h⟩
theorem HC {β:Type} {g:Nat} {xs:List AV} {f:AV→Option β} {r:β} (h:cD (aC P g xs) f=some r):∃n,cD (Ly P n g xs) f=some r:=by
 obtain⟨a,h1,h2⟩:=fP.1 h
 obtain⟨n,hn⟩:=(yB P).1 h1
 exact⟨n,fP.2 ⟨a,hn,h2⟩⟩
theorem Em {g:Nat} {args:List AV} {st:St} {dst:Option Nat} {e:qT} (h:aN (aC P) g args st dst=some e):∃n,aN (Ly P n) g args st dst=some e:=by
 unfold aN at h ⊢
 split at h
 ·rename_i hf;obtain⟨n,hn⟩:=HC P h
  exact⟨n,by rw[if_pos hf];exact hn⟩
 ·rename_i hf;split at h
  ·rename_i xs GG;obtain⟨n,hn⟩:=HC P h
   exact⟨n,by rw[if_neg hf];exact hn⟩
  ·cases h
theorem UD {g:Nat} {args:List AV} {st:St} {dst:Option Nat} {e:qT} (h:lH (aC P) g args st dst=some e):∃n,lH (Ly P n) g args st dst=some e:=by
 unfold lH at h ⊢
 split at h
 ·rename_i s k rest;split at h
  ·rename_i e0 sz n cs hh;split at h
   ·rename_i hc;simp only[hh,if_pos hc];cases hr:aC P g (.uniq e0 sz n cs :: rest) with
    | none=>simp[hr] at h
    | some r =>
      obtain⟨m,hm⟩:=(yB P).1 hr
      exact⟨m,by rw[hm];rw[hr] at h;exact h⟩
   ·cases h
  ·cases h
 ·split at h
  ·rename_i hc;simp only[if_pos hc];exact Em P h
  ·cases h
theorem NM {g:Nat} {args:List AV} {st:St} {dst:Option Nat} {e:qT} (h:fC (aC P) g args st dst=some e):∃n,fC (Ly P n) g args st dst=some e:=by
 unfold fC at h ⊢
 split at h
 ·rename_i s k hk;split at h
  ·rename_i pM;simp only[if_pos pM];split at h
   ·rename_i xs GG;exact HC P h
   ·cases h
  ·cases h
 ·rename_i hk;obtain⟨n,hn⟩:=Em P h
  exact⟨n,hn⟩
theorem z5 {o:Oper} {st:St} {e:qT} (h:dI P (aC P) o st=some e):∃n,dI P (Ly P n) o st=some e:=by
 obtain⟨dst,op,type,pos,after,guard⟩:=o
 cases op
 case call cl =>
  simp only[dI] at *
  unfold iE at *
  split at h
  ·unfold nM at h ⊢
   split at h
   ·split at h
    ·rename_i hm;obtain⟨n,hn⟩:=UD P h
     exact⟨n,by simp only[hm,if_true];exact hn⟩
    ·rename_i hm;split at h
     ·rename_i hm2;obtain⟨n,hn⟩:=NM P h
      exact⟨n,by rw[if_neg hm,if_pos hm2];exact hn⟩
     ·rename_i hm2;obtain⟨n,hn⟩:=Em P h
      exact⟨n,by rw[if_neg hm,if_neg hm2];exact hn⟩
   ·split at h
    ·exact Em P h
    ·cases h
  all_goals exact⟨0,h⟩
 case makeMap T r=>cases r<;>exact⟨0,h⟩
 all_goals exact⟨0,h⟩
theorem T4 {ops:Array Oper} {o:Oper} {st s:St} (h:bZ P (aC P) ops o st=some s):∃n,bZ P (Ly P n) ops o st=some s:=by
 unfold bZ at *
 split at h
 ·split at h
  ·rename_i b hg hb;cases h1:dI P (aC P) o st with
   | none=>simp[h1] at h
   | some e =>
     obtain⟨n,hn⟩:=z5 P h1
     refine⟨n, ?_⟩
     rw[if_pos hb,hn];rw[h1] at h;exact h
  ·rename_i b hg hb;exact⟨0,by rw[if_neg hb];exact h⟩
 ·cases h
theorem z6 {ops:Array Oper} {o:Oper} {st s:St} (h:gN P bi (aC P) (Co P) ops o st=some s):∃n,gN P bi (Ly P n) (Ut P n) ops o st=some s:=by
 unfold gN at h ⊢
 cases hg:(if bi=true then Ew o else none) with
 | none =>
   simp only[hg] at h ⊢;exact T4 P h
 | some ga =>
   obtain⟨g,args⟩:=ga
   simp only[hg] at h ⊢;cases R5:gv ops st o.guard with
   | none=>simp[R5] at h
   | some t =>
     simp only[R5] at h ⊢;cases t with
     | false=>exact⟨0,h⟩
     | true =>
       simp only[if_true] at h ⊢;cases h1:Co P g (args.map st.ev) st with
       | none=>simp[h1] at h
       | some r =>
         obtain⟨n,hn⟩:=(Xz P).1 h1
         refine⟨n, ?_⟩
         rw[h1] at h;rw[hn];exact h
theorem Ya {ops:Array Oper}:∀(l:List Oper) {st s:St},mG P bi (aC P) (Co P) ops l st=some s→∃n,mG P bi (Ly P n) (Ut P n) ops l st=some s
 | [],st,s,h=>⟨0,h⟩
 | o :: l,st,s,h=>by
   simp only[mG] at *
   obtain⟨s1,h1,h2⟩:=fP.1 h
   obtain⟨n,hn⟩:=z6 P h1
   obtain⟨m,hm⟩:=Ya l h2
   exact⟨max n m,fP.2 ⟨s1,Xw P (Br P (Nat.le_max_left n m)) (Bs P (Nat.le_max_left n m)) hn,Aw P (Br P (Nat.le_max_right n m)) (Bs P (Nat.le_max_right n m)) l hm⟩⟩
theorem Ob {cc:Nat→List AV→Option AV} {ii:Nat→List AV→St→Option (AV × St)} {ops:Array Oper}:∀(l:List Oper) (st:St),mG P false cc ii ops l st=Mb P cc ops l st
 | [],st=>rfl
 | o :: l,st=>by
   have e:∀s,gN P false cc ii ops o s=bZ P cc ops o s:=fun s=>rfl
   unfold mG Mb;rw[e];congr 1
   funext s
   exact Ob l s
theorem NN (st:St):wA P bi .skip st=some (.normal,st):=(gL P).2 ⟨0,1,rfl⟩
theorem NO (id:Nat) (st:St):wA P bi (.exit id) st=some (.exit id,st):=(gL P).2 ⟨0,1,rfl⟩
theorem XX (st:St):wA P bi .ret st=some (.ret,st):=(gL P).2 ⟨0,1,rfl⟩
theorem Yb (id:Nat) (ops:Array Oper) (d:Bool) (st:St):wA P bi (.region id ops d) st=cD (mG P bi (aC P) (Co P) ops ops.toList st) fun s=>if bi=true∧¬pU ops s (Ext.dyn id ops.size (rR ops)) then none else some (.normal,s):=by
 apply Option.ext
 intro r;rw[gL,fP];constructor
 ·rintro⟨n,m,h⟩
  cases m with
  | zero=>simp[uG] at h
  | succ m =>
    simp only[uG] at h;obtain⟨s1,h1,h2⟩:=fP.1 h
    exact⟨s1,Aw P (T3 P n) (aB0 P n) _ h1,h2⟩
 ·rintro⟨s1,h1,h2⟩
  obtain⟨n,hn⟩:=Ya P _ h1
  exact⟨n,1,by simp only[uG];exact fP.2 ⟨s1,hn,h2⟩⟩
def Yc (r:Ex × St) (k:St→Option (Ex × St)):Option (Ex × St) :=
 match r.1 with
 | .normal=>k r.2
 | e=>some (e,r.2)
theorem FJ (a b:Code) (st:St):wA P bi (.seq a b) st=cD (wA P bi a st) fun r=>Yc r (wA P bi b):=by
 apply Option.ext
 intro r;rw[gL,fP];constructor
 ·rintro⟨n,m,h⟩
  cases m with
  | zero=>simp[uG] at h
  | succ m =>
    simp only[uG] at h;obtain⟨⟨e1,s1⟩,h1,h2⟩:=fP.1 h
    refine⟨(e1,s1),(gL P).2 ⟨n,m,h1⟩, ?_⟩
    cases e1 with
    | normal=>exact (gL P).2 ⟨n,m,h2⟩
    | _=>exact h2
 ·rintro⟨⟨e1,s1⟩,h1,h2⟩
  obtain⟨n1,m1,h1⟩:=(gL P).1 h1
  cases e1 with
  | normal =>
    obtain⟨n2,m2,h2⟩:=(gL P).1 h2
    refine⟨max n1 n2,max m1 m2+1, ?_⟩
    simp only[uG];exact fP.2 ⟨(.normal,s1),oH P (Br P (Nat.le_max_left _ _)) (Bs P (Nat.le_max_left _ _)) _ _ (Nat.le_max_left _ _) _ _ _ h1,oH P (Br P (Nat.le_max_right _ _)) (Bs P (Nat.le_max_right _ _)) _ _ (Nat.le_max_right _ _) _ _ _ h2⟩
  | exit id=>exact⟨n1,m1+1,by simp only[uG];exact fP.2 ⟨(.exit id,s1),h1,h2⟩⟩
  | ret=>exact⟨n1,m1+1,by simp only[uG];exact fP.2 ⟨(.ret,s1),h1,h2⟩⟩
theorem Wy (b:Code) (st:St):wA P bi (.loop b) st=cD (wA P bi b st) fun r=>Yc r (wA P bi (.loop b)):=by
 apply Option.ext
 intro r;rw[gL,fP];constructor
 ·rintro⟨n,m,h⟩
  cases m with
  | zero=>simp[uG] at h
  | succ m =>
    simp only[uG] at h;obtain⟨⟨e1,s1⟩,h1,h2⟩:=fP.1 h
    refine⟨(e1,s1),(gL P).2 ⟨n,m,h1⟩, ?_⟩
    cases e1 with
    | normal=>exact (gL P).2 ⟨n,m,h2⟩
    | _=>exact h2
 ·rintro⟨⟨e1,s1⟩,h1,h2⟩
  obtain⟨n1,m1,h1⟩:=(gL P).1 h1
  cases e1 with
  | normal =>
    obtain⟨n2,m2,h2⟩:=(gL P).1 h2
    refine⟨max n1 n2,max m1 m2+1, ?_⟩
    simp only[uG];exact fP.2 ⟨(.normal,s1),oH P (Br P (Nat.le_max_left _ _)) (Bs P (Nat.le_max_left _ _)) _ _ (Nat.le_max_left _ _) _ _ _ h1,oH P (Br P (Nat.le_max_right _ _)) (Bs P (Nat.le_max_right _ _)) _ _ (Nat.le_max_right _ _) _ _ _ h2⟩
  | exit id=>exact⟨n1,m1+1,by simp only[uG];exact fP.2 ⟨(.exit id,s1),h1,h2⟩⟩
  | ret=>exact⟨n1,m1+1,by simp only[uG];exact fP.2 ⟨(.ret,s1),h1,h2⟩⟩
theorem EA (id:Nat) (b:Code) (st:St):wA P bi (.block id b) st=cD (wA P bi b st) fun r=>some (r.1.inBlock id,r.2):=by
 apply Option.ext
 intro r;rw[gL,fP];constructor
 ·rintro⟨n,m,h⟩
  cases m with
  | zero=>simp[uG] at h
  | succ m =>
    simp only[uG] at h;obtain⟨r1,h1,h2⟩:=fP.1 h
    exact⟨r1,(gL P).2 ⟨n,m,h1⟩,h2⟩
 ·rintro⟨r1,h1,h2⟩
  obtain⟨n1,m1,h1⟩:=(gL P).1 h1
  exact⟨n1,m1+1,by simp only[uG];exact fP.2 ⟨r1,h1,h2⟩⟩
theorem NP (c:Operand) (a b:Code) (st:St) {t:Bool} (hc:st.ev c=.v (.bool t)):wA P bi (.cond c a b) st=if t=true then wA P bi a st else wA P bi b st:=by
 apply Option.ext
 intro r;rw[gL];constructor
 ·rintro⟨n,m,h⟩
  cases m with
  | zero=>simp[uG] at h
  | succ m =>
    simp only[uG,hc] at h;split at h
    ·rename_i hb;rw[if_pos hb];exact (gL P).2 ⟨n,m,h⟩
    ·rename_i hb;rw[if_neg hb];exact (gL P).2 ⟨n,m,h⟩
 ·intro h;split at h
  ·rename_i hb;obtain⟨n,m,h⟩:=(gL P).1 h
   exact⟨n,m+1,by simp only[uG,hc];rw[if_pos hb];exact h⟩
  ·rename_i hb;obtain⟨n,m,h⟩:=(gL P).1 h
   exact⟨n,m+1,by simp only[uG,hc];rw[if_neg hb];exact h⟩
noncomputable def yH (x:Code) (st:St):Option (Ex × St):=wA P false x st
theorem XY {x:Code} {st:St} {r:Ex × St}:yH P x st=some r↔∃n m,uG P false (Ly P n) (Ut P n) m x st=some r:=gL P
theorem T5 (st:St):yH P .skip st=some (.normal,st):=NN P st
theorem T6 (id:Nat) (st:St):yH P (.exit id) st=some (.exit id,st):=NO P id st
theorem aB1 (st:St):yH P .ret st=some (.ret,st):=XX P st
theorem UE (id:Nat) (ops:Array Oper) (d:Bool) (st:St):yH P (.region id ops d) st=cD (Mb P (aC P) ops ops.toList st) fun s=>some (.normal,s):=by
 rw[← Ob P (ii:=Co P)];have h:=Yb P (bi:=false) id ops d st
 simp only[Bool.false_eq_true,false_and,if_false] at h;exact h
theorem aB2 (a b:Code) (st:St):yH P (.seq a b) st=cD (yH P a st) fun r=>Yc r (yH P b):=FJ P a b st
theorem Cf (b:Code) (st:St):yH P (.loop b) st=cD (yH P b st) fun r=>Yc r (yH P (.loop b)):=Wy P b st
theorem z7 (id:Nat) (b:Code) (st:St):yH P (.block id b) st=cD (yH P b st) fun r=>some (r.1.inBlock id,r.2):=EA P id b st
theorem T7 (c:Operand) (a b:Code) (st:St) {t:Bool} (hc:st.ev c=.v (.bool t)):yH P (.cond c a b) st=if t=true then yH P a st else yH P b st:=NP P c a b st hc
noncomputable def zU (f:Nat) (fn:Func) (r:Ex × St):Option AV :=
 match r.1 with
 | .exit _=>none
 | _=>jN P f fn r.2
def bH (fn:Func):Bool:=tL fn && (match fn.body with|some c=>!nN c|none=>true)
theorem Jv {xs:List AV} (h:xs.any tM=false):tN xs=none:=by
 cases xs with
 | nil=>rfl
 | cons x xs =>
   cases x<;>first|rfl|simp[tM] at h
noncomputable def n8 (fn:Func) (r:Ex × St):Option AV :=
 match r.1 with
 | .exit _=>none
 | _=>Aa P fn r.2
theorem LG {f:Nat} {fn:Func} {c:Code} (hf:P.funcs[f]? = some fn) (hb:fn.body=some c) (pM:tL fn=true) (e sz m:Nat) (cs xs:List AV) (hx:Ext.ext f (.uniq e sz m cs :: xs)=none) :
 aC P f (.uniq e sz m cs :: xs)=cD (wA P (nN c) c (St.sQ e sz m cs xs)) (n8 P fn):=by
 apply Option.ext
 intro r;rw[yB,fP];have hq:tN (.uniq e sz m cs :: xs)=some (e,sz,m,cs,xs):=rfl
 constructor
 ·rintro⟨n,h⟩
  cases n with
  | zero=>rw[Uu,hx] at h;cases h
  | succ n =>
    simp only[yC,hx,hq,runM,hf,pM,hb,if_true] at h;obtain⟨r1,h1,h2⟩:=fP.1 h
    exact⟨r1,(gL P).2 ⟨n,n,h1⟩,h2⟩
 ·rintro⟨r1,h1,h2⟩
  obtain⟨n,m',h1⟩:=(gL P).1 h1
  refine⟨max n m'+1, ?_⟩
  simp only[yC,hx,hq,runM,hf,pM,hb,if_true];exact fP.2 ⟨r1,oH P (Br P (Nat.le_max_left _ _)) (Bs P (Nat.le_max_left _ _)) _ _ (Nat.le_max_right _ _) _ _ _ h1,h2⟩
theorem NQ {f:Nat} {fn:Func} {c:Code} (hf:P.funcs[f]? = some fn) (hb:fn.body=some c) (pM:tL fn=true) (xs:List AV) (hx:Ext.ext f xs=none) (hu:xs.any tM=false):aC P f xs=cD (wA P (nN c) c (St.init xs)) (zU P f fn):=by
 apply Option.ext
 intro r;rw[yB,fP];constructor
 ·rintro⟨n,h⟩
  cases n with
  | zero=>rw[Uu,hx] at h;cases h
  | succ n =>
    simp only[yC,hx,Jv hu,hu,YM,hf,pM,hb,if_true] at h;obtain⟨r1,h1,h2⟩:=fP.1 h
    exact⟨r1,(gL P).2 ⟨n,n,h1⟩,h2⟩
 ·rintro⟨r1,h1,h2⟩
  obtain⟨n,m,h1⟩:=(gL P).1 h1
  refine⟨max n m+1, ?_⟩
  simp only[yC,hx,Jv hu,hu,YM,hf,pM,hb,if_true];exact fP.2 ⟨r1,oH P (Br P (Nat.le_max_left _ _)) (Bs P (Nat.le_max_left _ _)) _ _ (Nat.le_max_right _ _) _ _ _ h1,h2⟩
theorem T8 {f:Nat} {fn:Func} {c:Code} (hf:P.funcs[f]? = some fn) (hb:fn.body=some c) (pM:bH fn=true) (xs:List AV) (hx:Ext.ext f xs=none) (hu:xs.any tM=false):aC P f xs=cD (yH P c (St.init xs)) (zU P f fn):=by
 simp only[bH,hb,Bool.and_eq_true,Bool.not_eq_true'] at pM;rw[NQ P hf hb pM.1 xs hx hu,pM.2];rfl
noncomputable def aFT (fn:Func) (r:Ex × St):Option (AV × St) :=
 match r.1 with
 | .exit _=>none
 | _=>(Ac P fn r.2).map fun x=>(x,r.2)
theorem FK {f:Nat} {fn:Func} {c:Code} (hf:P.funcs[f]? = some fn) (hb:fn.body=some c) (pM:CF true fn=true) (xs:List AV) (st:St):Co P f xs st=cD (wA P true c ((St.init xs).back st)) (aFT P fn):=by
 apply Option.ext
 intro r;rw[Xz,fP];constructor
 ·rintro⟨n,h⟩
  cases n with
  | zero=>rw[G7] at h;cases h
  | succ n =>
    simp only[Mf,YN,hf,pM,hb,if_true] at h;obtain⟨r1,h1,h2⟩:=fP.1 h
    exact⟨r1,(gL P).2 ⟨n,n,h1⟩,h2⟩
 ·rintro⟨r1,h1,h2⟩
  obtain⟨n,m,h1⟩:=(gL P).1 h1
  refine⟨max n m+1, ?_⟩
  simp only[Mf,YN,hf,pM,hb,if_true];exact fP.2 ⟨r1,oH P (Br P (Nat.le_max_left _ _)) (Bs P (Nat.le_max_left _ _)) _ _ (Nat.le_max_right _ _) _ _ _ h1,h2⟩
end
end Go.Ab
end
