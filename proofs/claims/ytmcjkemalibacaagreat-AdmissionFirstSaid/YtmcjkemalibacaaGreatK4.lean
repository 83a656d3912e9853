/-
  Part 4 of the proof: an evaluator of programs, its soundness, and what functions of this program compute.
-/
import Derived.Test.YtmcjkemalibacaaGreatK3
set_option linter.all false
set_option maxRecDepth 20000
set_option maxHeartbeats 40000000
section
namespace Go.Ab
open Classical
variable [Ext]
section
variable {P:Program} {call:Nat→List AV→Option AV} {inl:Nat→List AV→St→Option (AV × St)} {bi:Bool} {nt:Nat} {h0:Nat→Obj→Prop} {w0:World} {F:Frm}
theorem codeOk_region {ops:Array Oper} {id:Nat} {draw:Bool} (h:codeOk bi nt (.region id ops draw)=true):(∀ (j:Nat) o,ops[j]? = some o→∀ d,o.dst=some d→d < nt)∧(draw=true→drawOk ops (if bi=true then Ext.dyn id ops.size (firstDst ops) else [])=true):=by
 simp only[codeOk,Bool.and_eq_true,Bool.or_eq_true,Bool.not_eq_true'] at h
 refine⟨fun j o ho d hd=>?_,fun hdr=>h.2.resolve_left (by rw[hdr];simp)⟩
 have:=Array.all_eq_true_iff_forall_mem.1 h.1 o (Array.mem_of_getElem? ho)
 simpa [hd] using this
def InlOk (P:Program) (inl:Nat→List AV→St→Option (AV × St)):Prop :=
 ∀ g xs st r s',inl g xs st=some (r,s')→Enters P g ∧
   ∀ (F:Frm) (h0:Nat→Obj→Prop) (w0:World) (nt:Nat) (ρ:Nat→Nat→Value) (a:Act) (w:World) (vs:Array Value) (K:Value→World→Prop),Sim F h0 w0 nt ρ st a w→RelL (ctx h0 w0 ρ st w) xs vs.toList →
     (∀ ρ' w' v,Sim F h0 w0 nt ρ' (st.back s') a w'→RelV (ctx h0 w0 ρ' (st.back s') w') r v→K v w')→Calls P g vs w fun en w'=>∃ v,en=.returned v∧K v w'
theorem isInl_spec {o:Oper} {g:Nat} {args:List Operand} (h:isInl o=some (g,args)):∃ c,o.op=.call c∧c.callee=.value (.func g)∧c.args.toList=args:=by
 obtain⟨dst,op,type,pos,after,guard⟩:=o
 unfold isInl at h
 split at h
 ·rename_i g' args' ats hop
  split at h
  ·simp only[Option.some.injEq,Prod.mk.injEq] at h
   obtain⟨rfl,rfl⟩:=h
   exact⟨_,hop,rfl,rfl⟩
  ·cases h
 ·cases h
theorem evOpI_sound {ops:Array Oper} {Q:Exit→Act→World→Prop} {ρ:Nat→Nat→Value} {st st':St} {a:Act} {w:World} {K:Act→World→Prop} (S:Sim F h0 w0 nt ρ st a w) (hcall:CallOk P call) (hinl:InlOk P inl) {i:Nat} {o:Oper}
 (hi:ops[i]? = some o) (hd:∀ d,o.dst=some d→d < nt) (h:evOpI P bi call inl ops o st=some st')
 (hK:∀ ρ' a' w',Sim F h0 w0 nt ρ' st' a' w'→K a' w'):wpOp P ops Q i K a w:=by
 unfold evOpI at h
 split at h
 ·rename_i g args hg
  have hg':isInl o=some (g,args):=by
   split at hg
   ·exact hg
   ·cases hg
  obtain⟨c,hop,hcal,hargs⟩:=isInl_spec hg'
  unfold wpOp
  simp only[hi]
  cases hgv:gv ops st o.guard with
  | none=>simp[hgv] at h
  | some b =>
    rw[gv_sound S hgv]
    simp only[hgv] at h
    cases b with
    | true =>
      simp only[if_true] at h ⊢
      cases he:inl g (args.map st.ev) st with
      | none=>simp[he] at h
      | some r =>
        obtain⟨x,s'⟩:=r
        simp only[he,Option.map_some,Option.some.injEq] at h
        subst h
        refine .inl ?_
        obtain⟨⟨fn,hfun,hname,hbody⟩,hcalls⟩:=hinl g _ st x s' he
        have hnb:fn.body.isNone=false:=by
         cases hb:fn.body<;>simp[hb] at hbody ⊢
        have hn1 : ¬ fn.name = "runtime.NumGoroutine" := by simpa using hname
        have hn2:¬ fn.body=none:=by intro h;simp[h] at hnb
        have hrun:(execOp a.eval o).run P w=.ok (.enter g (c.args.map a.eval)) w:=by
         simp[execOp,hop,resolve,hcal,Act.eval,Deferred.ofValue,invoke,callFunc,hfun,hn1,hn2]
        have hrel:RelL (ctx h0 w0 ρ st w) (args.map st.ev) (c.args.map a.eval).toList:=by
         rw[← hargs]
         simpa using RelL.map c.args.toList _ _ fun p _=>S.ev p
        unfold Oper.wp
        rw[hrun,Oper.upon_enter]
        refine (hcalls F h0 w0 nt ρ a w (c.args.map a.eval) (fun v w'=>K (a.put o.dst v) w') S hrel fun ρ' w' v S' hv=>?_).mono ?_
        ·exact hK ρ' _ w' (S'.put o.dst hd hv)
        ·rintro en w' ⟨v,rfl,hk⟩
         exact hk
    | false =>
      simp only[Bool.false_eq_true,if_false,Option.some.injEq] at h ⊢
      subst h
      exact hK ρ _ w (S.put o.dst hd (.v _))
 ·exact evOp_sound S hcall hi hd h hK
theorem opsI_sound {ops:Array Oper} (hcall:CallOk P call) (hinl:InlOk P inl) (hdst:∀ (j:Nat) o,ops[j]? = some o→∀ d,o.dst=some d→d < nt) {Q:Exit→Act→World→Prop} {sf:St}
 (hQ:∀ ρ' a' w',Sim F h0 w0 nt ρ' sf a' w'→Q .normal a' w'):∀ (l:List Oper) (k:Nat) (st:St) (ρ:Nat→Nat→Value) (a:Act) (w:World),(∀ (j:Nat) o,l[j]? = some o→ops[k+j]? = some o)→Sim F h0 w0 nt ρ st a w →
  evOpsI P bi call inl ops l st=some sf→wpOps P ops Q (List.range' k l.length) a w
 | [],k,st,ρ,a,w,hl,S,h=>by
   simp only[evOpsI,Option.some.injEq] at h
   subst h
   exact hQ ρ a w S
 | o :: l,k,st,ρ,a,w,hl,S,h=>by
   rw[List.length_cons,List.range'_succ,wpOps_cons]
   have hi:ops[k]? = some o:=hl 0 o rfl
   unfold evOpsI at h
   cases h1:evOpI P bi call inl ops o st with
   | none=>simp[h1,bnd] at h
   | some s1 =>
     simp only[h1,bnd] at h
     exact evOpI_sound S hcall hinl hi (hdst k o hi) h1 fun ρ' a' w' S'=>opsI_sound hcall hinl hdst hQ l (k+1) s1 ρ' a' w' (fun j o' hj=>by
      have:=hl (j+1) o' (by simpa using hj)
      rw[show k+1+j=k+(j+1) by omega];exact this) S' h
noncomputable def evIx (P:Program) (bi:Bool) (call:Nat→List AV→Option AV) (inl:Nat→List AV→St→Option (AV × St)) (ops:Array Oper):List Nat→St→Option St
 | [],st=>some st
 | i :: r,st =>
   match ops[i]? with
   | some o=>bnd (evOpI P bi call inl ops o st) (evIx P bi call inl ops r)
   | none=>evIx P bi call inl ops r st
theorem evOpsI_evIx {ops:Array Oper}:∀ (l:List Oper) (k:Nat) (st:St),(∀ j,l[j]? = ops[k+j]?∨l.length≤j)→evOpsI P bi call inl ops l st=evIx P bi call inl ops (List.range' k l.length) st
 | [],k,st,h=>rfl
 | o :: l,k,st,h=>by
   have h0:=(h 0).resolve_right (by simp)
   simp only[List.getElem?_cons_zero,Nat.add_zero] at h0
   simp only[evOpsI,List.length_cons,List.range'_succ,evIx,← h0]
   cases evOpI P bi call inl ops o st with
   | none=>rfl
   | some s =>
     simp only[bnd]
     exact evOpsI_evIx l (k+1) s fun j=>by
      rcases h (j+1) with h | h
      ·left
       rw[show k+1+j=k+(j+1) by omega,← h]
       simp
      ·right
       simpa using h
theorem evOp_env {ops:Array Oper} {o:Oper} {st s:St} {a:Nat} (h:evOp P call ops o st=some s) (hd:o.dst≠some a):s.env a=st.env a:=by
 rw[evOp_eq] at h
 cases he:evEff P call ops o st with
 | none=>simp[he] at h
 | some e =>
   simp only[he,Option.map_some,Option.some.injEq] at h
   subst h
   rw[apply_env,(evEff_shape he).1,if_neg hd]
theorem noI_spec {o:Oper} (h:noI o=true):isInl o=none:=by simpa [noI] using h
theorem evOpI_no {ops:Array Oper} {o:Oper} (h:noI o=true) (st:St):evOpI P bi call inl ops o st=evOp P call ops o st:=by
 unfold evOpI
 rw[noI_spec h]
 cases bi<;>rfl
theorem evOpI_env {ops:Array Oper} {o:Oper} {st s:St} {a:Nat} (h:evOpI P bi call inl ops o st=some s) (hd:o.dst≠some a):s.env a=st.env a:=by
 unfold evOpI at h
 have hput:∀ (s0:St) (x:AV),(s0.put o.dst x).env a=s0.env a:=fun s0 x=>by
  cases hod:o.dst with
  | none=>rfl
  | some d =>
    simp only[St.put]
    rw[if_neg]
    rintro rfl
    exact hd hod
 split at h
 ·split at h
  ·split at h
   ·simp only[Option.map_eq_some_iff] at h
    obtain⟨r,_,rfl⟩:=h
    exact hput _ _
   ·simp only[Option.some.injEq] at h
    subst h
    exact hput _ _
  ·cases h
 ·exact evOp_env h hd
theorem evIx_env {ops:Array Oper} {a:Nat}:∀ (l:List Nat) {st sf:St},(∀ m∈l,∀ o,ops[m]? = some o→o.dst≠some a)→evIx P bi call inl ops l st=some sf→sf.env a=st.env a
 | [],st,sf,_,h=>by
   simp only[evIx,Option.some.injEq] at h
   subst h;rfl
 | i :: l,st,sf,hd,h=>by
   unfold evIx at h
   cases hi:ops[i]? with
   | none=>simp only[hi] at h;exact evIx_env l (fun m hm=>hd m (by simp[hm])) h
   | some o =>
     simp only[hi] at h
     cases h1:evOpI P bi call inl ops o st with
     | none=>simp[h1,bnd] at h
     | some s1 =>
       simp only[h1,bnd] at h
       rw[evIx_env l (fun m hm=>hd m (by simp[hm])) h,evOpI_env h1 (hd i (by simp) o hi)]
def MaySwap (ops:Array Oper) (sf:St) (rest:List Nat) (k:Nat) (ok oi:Oper):Prop :=
 apartOk ops ok oi=true∨∃ aS bs,keyRegs ok=some aS∧keyRegs oi=some bs∧Oper.apart ops ok oi=true∧farAll sf aS bs ∧
  (∀ m∈rest,k≤m→∀ o,ops[m]? = some o→∀ a∈aS,o.dst≠some a)∧(∀ m∈rest,∀ o,ops[m]? = some o→∀ b∈bs,o.dst≠some b)
theorem evIx_front {ops:Array Oper} (hcall:CallOk P call) (hdst:∀ (j:Nat) o,ops[j]? = some o→∀ d,o.dst=some d→d < nt) {i:Nat} {oi:Oper} (hi:ops[i]? = some oi) (l2:List Nat):∀ (l1:List Nat) (st sf:St),Valid nt st→(l1 ++ i :: l2).Pairwise (· < ·) →
 (∀ k∈l1,∃ ok,ops[k]? = some ok∧noI ok=true∧noI oi=true∧MaySwap ops sf (l1 ++ i :: l2) k ok oi)→evIx P bi call inl ops (l1 ++ i :: l2) st=some sf→evIx P bi call inl ops (i :: (l1 ++ l2)) st=some sf
 | [],st,sf,_,_,_,h=>h
 | k :: l1,st,sf,hv,hs,hap,h=>by
   obtain⟨ok,hok,hn1,hn2,hak⟩:=hap k (by simp)
   have e1:=fun st=>evOpI_no (P:=P) (bi:=bi) (call:=call) (inl:=inl) (ops:=ops) hn1 st
   have e2:=fun st=>evOpI_no (P:=P) (bi:=bi) (call:=call) (inl:=inl) (ops:=ops) hn2 st
   simp only[List.cons_append,evIx,hok,e1] at h
   cases h1:evOp P call ops ok st with
   | none=>simp[h1,bnd] at h
   | some s1 =>
     simp only[h1,bnd] at h
     rw[List.cons_append,List.pairwise_cons] at hs
     have ih:=evIx_front hcall hdst hi l2 l1 s1 sf (hv.step hcall (hdst k ok hok) h1) hs.2 (fun k' hk=>by
      obtain⟨ok',h1,m1,m2,h2⟩:=hap k' (by simp[hk])
      refine⟨ok',h1,m1,m2,h2.imp id ?_⟩
      rintro⟨a,a',e1,e2,e3,e4,e5,e6⟩
      exact⟨a,a',e1,e2,e3,e4,fun m hm=>e5 m (by simp only[List.cons_append];exact List.mem_cons_of_mem _ hm),fun m hm=>e6 m (by simp only[List.cons_append];exact List.mem_cons_of_mem _ hm)⟩) h
     have ih0:=ih
     simp only[evIx,hi,e2] at ih
     cases h2:evOp P call ops oi s1 with
     | none=>simp[h2,bnd] at ih
     | some s2 =>
       simp only[h2,bnd] at ih
       have hcomm:∃ s3,evOp P call ops oi st=some s3∧evOp P call ops ok s3=some s2:=by
        rcases hak with hak | ⟨aS,bs,e1',e2',e3,e4,e5,e6⟩
        ·exact ev_comm hak hv.ids h1 h2
        ·have w1:∀ m∈i :: (l1 ++ l2),m∈(k :: l1) ++ i :: l2∧k≤m:=fun m hm=>by
          have hm':m∈l1 ++ i :: l2:=by
           simp only[List.mem_cons,List.mem_append] at hm ⊢
           rcases hm with h | h | h
           ·exact .inr (.inl h)
           ·exact .inl h
           ·exact .inr (.inr h)
          exact⟨by simp only[List.cons_append];exact List.mem_cons_of_mem _ hm',Nat.le_of_lt (hs.1 m hm')⟩
         have f1:∀ a∈aS,sf.env a=st.env a:=fun a ha=>by
          rw[evIx_env _ (fun m hm o ho=>e5 m (w1 m hm).1 (w1 m hm).2 o ho a ha) ih0,evOp_env h1 (e5 k (by simp) (Nat.le_refl _) ok hok a ha)]
         have f2:∀ b∈bs,sf.env b=st.env b:=fun b hb=>by
          rw[evIx_env _ (fun m hm o ho=>e6 m (w1 m hm).1 o ho b hb) ih0,evOp_env h1 (e6 k (by simp) ok hok b hb)]
         have e4':farAll st aS bs:=fun a ha b hb=>by
          have:=e4 a ha b hb
          rw[f1 a ha,f2 b hb] at this
          exact this
         exact ev_commD hv.ids e1' e2' e3 e4' h1 h2
       obtain⟨s3,h3,h4⟩:=hcomm
       simp only[List.cons_append,evIx,hi,hok,e1,e2,h3,h4,bnd]
       exact ih
theorem region_any {ops:Array Oper} {Q:Exit→Act→World→Prop} (hcall:CallOk P call) (hinl:InlOk P inl) (hdst:∀ (j:Nat) o,ops[j]? = some o→∀ d,o.dst=some d→d < nt) {dy:List (Nat × Nat)} {b:Array Nat} (D:DrawFacts ops dy b) {sf:St} (hsw:SwapsOk ops sf dy)
 (hQ:∀ ρ' a' w',Sim F h0 w0 nt ρ' sf a' w'→Q .normal a' w'):∀ (f:Nat) (l:List Nat) (listed:Array Bool) (st:St) (ρ:Nat→Nat→Value) (a:Act) (w:World),l.length=f→Left ops listed l→Sim F h0 w0 nt ρ st a w →
 evIx P bi call inl ops l st=some sf→wpAny P .any ops Q f listed a w
 | 0,l,listed,st,ρ,a,w,hf,L,S,he=>by
   have hl:=List.length_eq_zero_iff.1 hf
   subst hl
   simp only[evIx,Option.some.injEq] at he
   subst he
   refine⟨?_,hQ ρ a w S⟩
   cases hr:Region.ready .any ops listed with
   | nil=>rfl
   | cons x xs =>
     have hx:x∈Region.ready .any ops listed:=by rw[hr];simp
     obtain⟨h1,o,ho,_⟩:=mem_ready.1 hx
     have:=(L.mem x).2 ⟨(Array.getElem?_eq_some_iff.1 ho).1,h1⟩
     simp at this
 | f+1,l,listed,st,ρ,a,w,hf,L,S,he=>by
   refine⟨fun hr=>?_,fun i hi=>?_⟩
   ·exfalso
    cases l with
    | nil=>simp at hf
    | cons i l =>
      have hil:=(L.mem i).1 (by simp)
      have:i∈Region.ready .any ops listed:=mem_ready.2 ⟨hil.2,ops[i],Array.getElem?_eq_getElem hil.1,fun e he' hb=>by
       have hlt:=D.lt i _ (Array.getElem?_eq_getElem hil.1) e he' hb
       cases hle:listed.getD e.on false with
       | true=>rfl
       | false =>
         have hsz:e.on < listed.size:=by rw[L.size];omega
         have hin:=(L.mem e.on).2 ⟨by omega,by rw[getD_flip hsz];exact hle⟩
         rcases List.mem_cons.1 hin with h | h
         ·omega
         ·have:=(List.pairwise_cons.1 L.sorted).1 _ h
          omega⟩
      rw[hr] at this
      simp at this
   ·obtain⟨h1,oi,hoi,hall⟩:=mem_ready.1 hi
    have hilt:i < ops.size:=(Array.getElem?_eq_some_iff.1 hoi).1
    have hil:=(L.mem i).2 ⟨hilt,h1⟩
    obtain⟨l1,l2,rfl⟩:=List.append_of_mem hil
    have hs:=L.sorted
    rw[List.pairwise_append] at hs
    obtain⟨s1,s2,s3⟩:=hs
    have hno:∀ m,(b.getD i 0).testBit m=true→m ∉ l1 ++ i :: l2:=fun m h hm=>by
     have hkm:=(L.mem m).1 hm
     have:=bits_listed D L i oi hoi hall m h
     rw[← getD_flip (by rw[L.size];exact hkm.1),hkm.2] at this
     cases this
    have hap:∀ k∈l1,∃ ok,ops[k]? = some ok∧noI ok=true∧noI oi=true∧MaySwap ops sf (l1 ++ i :: l2) k ok oi:=fun k hk=>by
     have hki:=s3 k hk i (by simp)
     have hkm:=(L.mem k).1 (by simp[hk])
     refine⟨ops[k],Array.getElem?_eq_getElem hkm.1, ?_⟩
     rcases D.apart k i _ oi hki (Array.getElem?_eq_getElem hkm.1) hoi with h | ⟨n1,n2,h | ⟨hm,h⟩⟩
     ·exact absurd (by simp[hk]) (hno k h)
     ·exact⟨n1,n2,.inl h⟩
     ·refine⟨n1,n2,.inr ?_⟩
      have hsa:=hsw.mem _ hm
      unfold SwapAt at hsa
      simp only[Array.getElem?_eq_getElem hkm.1,hoi,Option.bind_some] at hsa
      unfold swapSt at h
      cases ha:keyRegs ops[k] with
      | none=>rw[ha] at h;cases h
      | some aS =>
        cases ha':keyRegs oi with
        | none=>rw[ha,ha'] at h;cases h
        | some bs =>
          rw[ha,ha'] at hsa h
          simp only[Bool.and_eq_true] at h hsa
          refine⟨aS,bs,rfl,rfl,h.1.1,hsa,fun m hm hkm' o ho a haa hd=>?_,fun m hm o ho b hbb hd=>?_⟩
          ·have hb:=wroteBefore_spec haa _ 0 h.1.2 m o (by simpa using ho) hd
           rw[Nat.zero_add] at hb
           have hlt:=D.bit_lt k _ (Array.getElem?_eq_getElem hkm.1) m hb
           omega
          ·have hb:=wroteBefore_spec hbb _ 0 h.2 m o (by simpa using ho) hd
           rw[Nat.zero_add] at hb
           exact hno m hb hm
    have he':=evIx_front hcall hdst hoi l2 l1 st sf ⟨F,h0,w0,ρ,a,w,S⟩ L.sorted hap he
    simp only[evIx,hoi] at he'
    cases h2:evOpI P bi call inl ops oi st with
    | none=>simp[h2,bnd] at he'
    | some s2' =>
      simp only[h2,bnd] at he'
      refine evOpI_sound S hcall hinl hoi (hdst i oi hoi) h2 fun ρ' a' w' S'=>?_
      refine region_any hcall hinl hdst D hsw hQ f (l1 ++ l2) _ s2' ρ' a' w' (by simp at hf ⊢;omega) ⟨by simp[L.size],fun j=>?_, ?_,fun j o ho hlj e he'' hb=>?_⟩ S' he'
      ·have hm:=L.mem j
       simp only[List.mem_append,List.mem_cons] at hm ⊢
       by_cases hji:j=i
       ·subst hji
        have hn1:j ∉ l1:=fun h=>by have:=s3 j h j (by simp);omega
        have hn2:j ∉ l2:=fun h=>by have:=(List.pairwise_cons.1 s2).1 j h;omega
        have hset:(listed.setIfInBounds j true).getD j true=true:=by
         have:j < listed.size:=by rw[L.size];exact hilt
         simp[this]
        simp[hn1,hn2,hset]
       ·rw[getD_set_ne true (Ne.symm hji)]
        simpa [hji] using hm
      ·rw[List.pairwise_append]
       exact⟨s1,(List.pairwise_cons.1 s2).2,fun x hx y hy=>s3 x hx y (by simp[hy])⟩
      ·by_cases hji:i=j
       ·subst hji
        rw[hoi] at ho
        cases ho
        exact getD_set_true (hall e he'' hb)
       ·rw[getD_set_ne false hji] at hlj
        exact getD_set_true (L.closed j o ho hlj e he'' hb)
theorem region_sound (hm:P.follows .mixedOrders=true) (hcall:CallOk P call) (hinl:InlOk P inl) {ops:Array Oper} {id:Nat} {draw:Bool} (hok:codeOk bi nt (.region id ops draw)=true) {Q:Exit→Act→World→Prop} {st sf:St} {ρ:Nat→Nat→Value} {a:Act} {w:World}
 (S:Sim F h0 w0 nt ρ st a w) (hsw:bi=true→SwapsOk ops sf (Ext.dyn id ops.size (firstDst ops))) (h:evOpsI P bi call inl ops ops.toList st=some sf) (hQ:∀ ρ' a' w',Sim F h0 w0 nt ρ' sf a' w'→Q .normal a' w'):(Code.region id ops draw).wp P Q a w:=by
 obtain⟨hdst,hdraw⟩:=codeOk_region hok
 cases draw with
 | false =>
   refine wp_region ?_
   rw[List.range_eq_range']
   have:=opsI_sound hcall hinl hdst hQ ops.toList 0 st ρ a w (fun j o hj=>by simpa using hj) S h
   simpa using this
 | true =>
   rw[evOpsI_evIx ops.toList 0 st (fun j=>.inl (by simp))] at h
   obtain⟨b,D⟩:=drawOk_spec (hdraw rfl)
   refine wp_region_any hm ?_
   have hg:w.grownBy { w with drawn:=w.drawn+1 } none:=⟨rfl,rfl,rfl,Nat.le_refl _,fun _ _ _=>rfl⟩
   have hsw':SwapsOk ops sf (if bi=true then Ext.dyn id ops.size (firstDst ops) else []):=by
    cases bi with
    | true=>exact hsw rfl
    | false=>exact trivial
   refine region_any hcall hinl hdst D hsw' hQ ops.size (List.range' 0 ops.size) _ st ρ a _ (by simp) ⟨by simp,fun j=>?_, ?_,fun j o ho hl=>?_⟩ (S.grow hg).1 (by simpa using h)
   ·rw[← List.range_eq_range',List.mem_range]
    constructor
    ·intro hj;exact⟨hj,by simp[hj]⟩
    ·exact fun h=>h.1
   ·rw[← List.range_eq_range']
    exact List.pairwise_lt_range
   ·simp[Array.getD_eq_getD_getElem?,Array.getElem?_replicate] at hl
    split at hl<;>simp at hl
theorem exists_least {p:Nat→Prop} (h:∃ n,p n):∃ n,p n∧∀ m,p m→n≤m:=by
 obtain⟨n,hn⟩:=h
 induction n using Nat.strongRecOn with
 | _ n ih =>
   by_cases hl:∃ m,m < n∧p m
   ·obtain⟨m,hm,hp⟩:=hl
    exact ih m hm hp
   ·exact⟨n,hn,fun m hm=>by
     rcases Nat.lt_or_ge m n with h | h
     ·exact absurd ⟨m,h,hm⟩ hl
     ·exact h⟩
noncomputable def leastN (p:Nat→Prop):Nat:=if h:∃ n,p n then Classical.choose (exists_least h) else 0
theorem leastN_spec {p:Nat→Prop} (h:∃ n,p n):p (leastN p)∧∀ m,p m→leastN p≤m:=by
 unfold leastN
 rw[dif_pos h]
 exact Classical.choose_spec (exists_least h)
def Ex.to:Ex→Exit
 | .normal=>.normal
 | .exit id=>.exit id
 | .ret=>.ret
theorem evC_sound (hm:P.follows .mixedOrders=true) (hcall:CallOk P call) (hinl:InlOk P inl) (n:Nat):∀ (c:Code) (st sf:St) (ex:Ex) (ρ:Nat→Nat→Value) (a:Act) (w:World) (Q:Exit→Act→World→Prop),codeOk bi nt c=true →
 Sim F h0 w0 nt ρ st a w→evC P bi call inl n c st=some (ex,sf)→(∀ ρ' a' w',Sim F h0 w0 nt ρ' sf a' w'→Q ex.to a' w')→c.wp P Q a w:=by
 induction n using Nat.strongRecOn with
 | _ n ih =>
 have evC_sound:∀ m,m < n→∀ (c:Code) (st sf:St) (ex:Ex) (ρ:Nat→Nat→Value) (a:Act) (w:World) (Q:Exit→Act→World→Prop),codeOk bi nt c=true →
  Sim F h0 w0 nt ρ st a w→evC P bi call inl m c st=some (ex,sf)→(∀ ρ' a' w',Sim F h0 w0 nt ρ' sf a' w'→Q ex.to a' w')→c.wp P Q a w:=ih
 clear ih
 intro c st sf ex ρ a w Q hok S h hQ
 cases n with
 | zero=>simp[evC] at h
 | succ n =>
   cases c<;>simp only[evC] at h
   case skip =>
    simp only[Option.some.injEq,Prod.mk.injEq] at h
    obtain⟨rfl,rfl⟩:=h
    exact wp_skip (hQ ρ a w S)
   case region id ops draw =>
    cases h1:evOpsI P bi call inl ops ops.toList st with
    | none=>simp[h1,bnd] at h
    | some s1 =>
      simp only[h1,bnd] at h
      split at h
      ·cases h
      ·rename_i hsw
       simp only[Option.some.injEq,Prod.mk.injEq] at h
       obtain⟨rfl,rfl⟩:=h
       exact region_sound hm hcall hinl hok S (fun hb=>Classical.byContradiction fun hc=>hsw ⟨hb,hc⟩) h1 hQ
   case seq x y =>
    simp only[codeOk,Bool.and_eq_true] at hok
    cases h1:evC P bi call inl n x st with
    | none=>simp[h1,bnd] at h
    | some r =>
      obtain⟨e1,s1⟩:=r
      simp only[h1,bnd] at h
      refine wp_seq (evC_sound n (by omega) x st s1 e1 ρ a w _ hok.1 S h1 fun ρ' a' w' S'=>?_)
      cases e1 with
      | normal=>exact evC_sound n (by omega) y s1 sf ex ρ' a' w' Q hok.2 S' h hQ
      | exit id =>
        simp only[Option.some.injEq,Prod.mk.injEq] at h
        obtain⟨rfl,rfl⟩:=h
        exact hQ ρ' a' w' S'
      | ret =>
        simp only[Option.some.injEq,Prod.mk.injEq] at h
        obtain⟨rfl,rfl⟩:=h
        exact hQ ρ' a' w' S'
   case cond c x y =>
    simp only[codeOk,Bool.and_eq_true] at hok
    split at h
    ·rename_i t ht
     have hr:=S.ev c
     rw[ht] at hr
     have hv:=relV_v hr
     refine wp_cond (t:=t) hv ?_
     cases t with
     | true=>exact evC_sound n (by omega) x st sf ex ρ a w Q hok.1 S (by simpa using h) hQ
     | false=>exact evC_sound n (by omega) y st sf ex ρ a w Q hok.2 S (by simpa using h) hQ
    ·cases h
   case block id b =>
    simp only[codeOk] at hok
    cases h1:evC P bi call inl n b st with
    | none=>simp[h1,bnd] at h
    | some r =>
      obtain⟨e1,s1⟩:=r
      simp only[h1,bnd,Option.some.injEq,Prod.mk.injEq] at h
      obtain⟨rfl,rfl⟩:=h
      refine wp_block (evC_sound n (by omega) b st s1 e1 ρ a w _ hok S h1 fun ρ' a' w' S'=>?_)
      have:=hQ ρ' a' w' S'
      cases e1 with
      | normal=>exact this
      | exit i =>
        simp only[Ex.inBlock] at this
        simp only[Ex.to,Exit.inBlock]
        by_cases hi:i=id
        ·rw[if_pos hi] at this ⊢;exact this
        ·rw[if_neg hi] at this ⊢;exact this
      | ret=>exact this
   case loop b =>
    have hok':=hok
    simp only[codeOk] at hok
    let p:Act→World→Nat→Prop:=fun a w m=>m≤n+1∧∃ st ρ,Sim F h0 w0 nt ρ st a w∧evC P bi call inl m (.loop b) st=some (ex,sf)
    refine wp_loop (fun a w=>∃ m,p a w m) (fun a w=>leastN (p a w)) ⟨n+1,Nat.le_refl _,st,ρ,S,h⟩ fun a w hI=>?_
    obtain⟨⟨hle,st1,ρ1,S1,h1⟩,_⟩:=leastN_spec hI
    generalize leastN (p a w)=m at h1 hle
    cases m with
    | zero=>simp[evC] at h1
    | succ m =>
      simp only[evC] at h1
      cases h2:evC P bi call inl m b st1 with
      | none=>simp[h2,bnd] at h1
      | some r =>
        obtain⟨e1,s1⟩:=r
        simp only[h2,bnd] at h1
        have hmn:m≤n:=by omega
        refine evC_sound m (by omega) b st1 s1 e1 ρ1 a w _ hok S1 h2 fun ρ' a' w' S'=>?_
        cases e1 with
        | normal =>
          have hp:p a' w' m:=⟨by omega,s1,ρ',S',h1⟩
          exact⟨⟨m,hp⟩,Nat.lt_succ_of_le ((leastN_spec ⟨m,hp⟩).2 m hp)⟩
        | exit id =>
          simp only[Option.some.injEq,Prod.mk.injEq] at h1
          obtain⟨rfl,rfl⟩:=h1
          exact hQ ρ' a' w' S'
        | ret =>
          simp only[Option.some.injEq,Prod.mk.injEq] at h1
          obtain⟨rfl,rfl⟩:=h1
          exact hQ ρ' a' w' S'
   case exit id =>
    simp only[Option.some.injEq,Prod.mk.injEq] at h
    obtain⟨rfl,rfl⟩:=h
    exact wp_exit (hQ ρ a w S)
   case ret =>
    simp only[Option.some.injEq,Prod.mk.injEq] at h
    obtain⟨rfl,rfl⟩:=h
    exact wp_ret (hQ ρ a w S)
   all_goals cases h
end
end Go.Ab
end
section
namespace Go.Ab
open Classical
variable [Ext]
section
variable {P:Program}
theorem lend_new {h0:Nat→Obj→Prop} {w w':World}:(bare (lendH h0 w w')).Le (bare (newHs h0 w w' [])) :=
 ⟨fun b o h=>⟨h.1,h.2,by simp⟩,fun _=>Nat.le_refl _,fun _ _ h=>absurd h (by simp[bare])⟩
def resOne (tmps:Array Value):ResultVar→Sem Value
 | .tmp t=>pure (tmps.getD t undef)
 | .cell p t=>do loadVar t (← asAddr (tmps.getD p undef))
theorem resVal_sound {h0:Nat→Obj→Prop} {w0:World} {F:Frm} {nt:Nat} {ρ:Nat→Nat→Value} {st:St} {a:Act} {w:World} (S:Sim F h0 w0 nt ρ st a w) {rv:ResultVar} {x:AV} (h:resVal P st rv=some x) :
 ∃ y,(resOne a.tmps rv).run P w=.ok y w∧RelV (ctx h0 w0 ρ st w) x y:=by
 cases rv with
 | tmp t =>
   simp only[resVal,Option.some.injEq] at h
   subst h
   exact⟨_,rfl,S.env t⟩
 | cell p T =>
   simp only[resVal] at h
   cases hra:readAt st (st.env p) with
   | none=>simp[hra,bnd] at h
   | some cs =>
     simp only[hra,bnd] at h
     obtain⟨b,off,arr,B,fr,hu,_,_⟩:=readAt_sound S hra (S.env p)
     obtain⟨r,hr,hrel⟩:=load_sound S hra h (S.env p)
     rw[hu] at hr
     refine⟨r, ?_,hrel⟩
     simp only[Instr.loadAt,Instr.sureAddr] at hr
     simp only[resOne,hu,asAddr]
     exact hr
theorem results_list {h0:Nat→Obj→Prop} {w0:World} {F:Frm} {nt:Nat} {ρ:Nat→Nat→Value} {st:St} {a:Act} {w:World} (S:Sim F h0 w0 nt ρ st a w):∀ (rs:List ResultVar) (xs:List AV),rs.map (resVal P st)=xs.map some →
 ∃ ys,(rs.mapM (resOne a.tmps)).run P w=.ok ys w∧RelL (ctx h0 w0 ρ st w) xs ys
 | [],xs,h=>by
   cases xs with
   | nil=>exact⟨[],rfl,.nil _⟩
   | cons x xs=>simp at h
 | r :: rs,xs,h=>by
   cases xs with
   | nil=>simp at h
   | cons x xs =>
     simp only[List.map_cons,List.cons.injEq] at h
     obtain⟨y,hy,hrel⟩:=resVal_sound S h.1
     obtain⟨ys,hys,hrels⟩:=results_list S rs xs h.2
     refine⟨y :: ys, ?_,.cons hrel hrels⟩
     rw[List.mapM_cons,run_ok_bind hy,run_ok_bind hys]
     rfl
theorem finish_sound {h0:Nat→Obj→Prop} {w0:World} {F:Frm} {nt:Nat} {ρ:Nat→Nat→Value} {st:St} {a:Act} {w:World} (S:Sim F h0 w0 nt ρ st a w) {fn:Func} {r:AV} (h:finishA P fn st=some r) :
 ∃ v,(results fn a.tmps).run P w=.ok v w∧RelR h0 w0 w r v:=by
 have hres:∀ (ys:List Value),(fn.results.toList.mapM (resOne a.tmps)).run P w=.ok ys w →
  (results fn a.tmps).run P w=.ok (if h:ys.toArray.size=1 then ys.toArray[0] else .tuple ys.toArray) w:=by
  intro ys hys
  have e:results fn a.tmps=(do let vs ← fn.results.mapM (resOne a.tmps);pure (if h:vs.size=1 then vs[0] else .tuple vs)):=by
   unfold results
   congr 1
  rw[e,Array.mapM_eq_mapM_toList]
  simp only[Sem.run_bind,Sem.run_map,hys,Result.andThen_ok,Sem.run_pure]
 unfold finishA at h
 split at h
 ·rename_i r1 hr1
  cases h1:resVal P st r1 with
  | none=>simp[h1,bnd] at h
  | some x =>
    simp only[h1,bnd] at h
    obtain⟨ys,hys,hrel⟩:=results_list (P:=P) S [r1] [x] (by simp[h1])
    have hlen:=hrel.len
    obtain⟨y,rfl⟩:∃ y,ys=[y]:=by
     cases ys with
     | nil=>simp at hlen
     | cons y ys=>cases ys with
       | nil=>exact⟨y,rfl⟩
       | cons z zs=>simp at hlen
    have hxy:=hrel.head
    have hrun:=hres [y] (by rw[hr1];exact hys)
    simp at hrun
    refine⟨y,hrun, ?_⟩
    unfold expoR at h
    split at h
    ·rename_i s g
     split at h
     ·rename_i e sz n cs he
      split at h
      ·rename_i hf
       simp only[Option.some.injEq] at h
       subst h
       obtain⟨_,_,xs,ho,hc⟩:=S.ent s g _ he
       cases hxy with
       | own _ _ hg h1' =>
         refine⟨[ρ s g],fun x hx=>by simp at hx;subst hx;exact h1',fun i j x y b hi hj _ _=>by
          have:=(List.getElem?_eq_some_iff.1 hi).1
          have:=(List.getElem?_eq_some_iff.1 hj).1
          simp only[List.length_singleton] at *
          omega,fun x hx b hb=>by simp at hx;subst hx;exact (ownsR_blk ho b hb).1,fun d c=>rfl,fun D d c hD hρ=>?_⟩
         obtain⟨k1,k2⟩:=hρ 0 _ rfl
         simp only[Nat.add_zero] at k1 k2
         refine⟨?_,fun i e' x hi hx=>?_⟩
         ·have:=RelV.own (C:=D) d c k1 (by rw[k2];exact h1')
          rw[k2] at this
          exact this
         ·match i with
          | 0 =>
            simp only[opn,opn1,opnC,List.getElem?_cons_zero,Option.some.injEq] at hi hx
            subst hi;subst hx
            exact⟨xs,ho,hc.flat hf fun b o hb=>hD b o ⟨hb.1,hb.2.1,by simpa using hb.2.2 s g _ he⟩⟩
          | i+1=>simp at hx
      ·cases h
     ·cases h
    ·exact relR_flat (expo_flat h) ((expo_sound S hxy h).le lend_new)
 ·rename_i rs hne
  simp only[Option.map_eq_some_iff] at h
  obtain⟨ds,hds,rfl⟩:=h
  have hm:=optAll_spec _ _ hds
  have hex:∃ xs:List AV,fn.results.toList.map (resVal P st)=xs.map some∧xs.map (expoS st)=ds.map some:=by
   generalize fn.results.toList=l at hm
   clear hds
   induction l generalizing ds with
   | nil=>cases ds with
     | nil=>exact⟨[],rfl,rfl⟩
     | cons d ds=>simp at hm
   | cons r l ih=>cases ds with
     | nil=>simp at hm
     | cons d ds =>
       simp only[List.map_cons,List.cons.injEq] at hm
       obtain⟨xs,e1,e2⟩:=ih ds hm.2
       cases hr:resVal P st r with
       | none=>simp[hr,bnd] at hm
       | some x =>
         simp only[hr,bnd] at hm
         exact⟨x :: xs,by simp[hr,e1],by simp[hm.1,e2]⟩
  obtain⟨xs,e1,e2⟩:=hex
  obtain⟨ys,hys,hrel⟩:=results_list S _ xs e1
  have hl1:xs.length=fn.results.toList.length:=by have:=congrArg List.length e1;simpa using this.symm
  have hl2:ds.length=xs.length:=by have:=congrArg List.length e2;simpa using this.symm
  have hne1:ys.toArray.size≠1:=by
   intro h1
   have hlen:=hrel.len
   simp only[List.size_toArray] at h1
   have:fn.results.toList.length=1:=by omega
   obtain⟨z,hz⟩:=List.length_eq_one_iff.1 this
   exact hne z hz
  have hrun:=hres ys hys
  rw[dif_neg hne1] at hrun
  refine⟨_,hrun, ?_⟩
  refine relR_flat (.tup ds (optAll_all (p:=Flat) (f:=fun r=>bnd (resVal P st r) (expoS st)) (fun a b h=>by
   cases hr:resVal P st a with
   | none=>simp[hr,bnd] at h
   | some x=>simp only[hr,bnd] at h;exact expoS_flat h) _ _ hds)) (.tup ds ys.toArray (by simp;rw[hl2];exact hrel.len) fun i x y hx hy=>?_)
  have hi:i < xs.length:=by have:=(List.getElem?_eq_some_iff.1 hx).1;omega
  have hx':expoS st xs[i]=some x:=by
   have:=congrArg (·[i]?) e2
   simp only[List.getElem?_map,hx,List.getElem?_eq_getElem hi,Option.map_some,Option.some.injEq] at this
   exact this
  exact (expoS_sound S (hrel.rel i xs[i] y (by simp[hi]) (by simpa using hy)) hx').le lend_new
def GoodU (w0:World) (ρ:Nat→Nat→Value) (st:St) (w:World) (d:Nat) (H:Nat→Obj→Prop) (f:Nat→AV→AV × List Ent) (y:AV) (ks:List (Nat × Nat)) (u:Value):Prop :=
 (∀ k∈ks,∃ e,st.heap k.1 k.2=some e)∧∀ c,(f c y).2.length=ks.length∧∀ D:Ctx,(∀ b o,H b o→D.h b o)→(∀ (i:Nat) (k:Nat × Nat),ks[i]? = some k→c+i < D.cnt d∧D.ρ d (c+i)=ρ k.1 k.2) →
  RelV D (f c y).1 u∧∀ (i:Nat) (e:Ent) (k:Nat × Nat),(f c y).2[i]? = some e→ks[i]? = some k→EntRel D w w0.heap.size (ρ k.1 k.2) e
section keep
variable {h0:Nat→Obj→Prop} {w0:World} {F:Frm} {nt:Nat} {ρ:Nat→Nat→Value} {st:St} {a:Act} {w:World} {H:Nat→Obj→Prop}
theorem goodC (S:Sim F h0 w0 nt ρ st a w) (hH:∀ b o,(ctx h0 w0 ρ st w).h b o→H b o) {x y:AV} {u:Value} (hu:RelV (ctx h0 w0 ρ st w) x u) (h:expoUC st x=some y) (d:Nat):GoodU w0 ρ st w d H (opnC d) y (ownKey x) u:=by
 unfold expoUC at h
 split at h
 ·rename_i hf
  simp only[Option.some.injEq] at h
  subst h
  have hk:ownKey x=[]:=by cases hf<;>rfl
  rw[hk]
  refine⟨by simp,fun c=>?_⟩
  rw[opnC_flat hf]
  exact⟨rfl,fun D hD _=>⟨hu.flat hf fun b o hb=>hD _ _ (hH _ _ hb),by simp⟩⟩
 ·split at h
  ·rename_i s g _
   split at h
   ·rename_i e sz n cs he
    split at h
    ·rename_i hf
     simp only[Option.some.injEq] at h
     subst h
     obtain⟨_,h1,xs,ho,hc⟩:=S.ent s g _ he
     have hu':u=ρ s g:=by cases hu;rfl
     subst hu'
     refine⟨by simp[ownKey];exact⟨_,he⟩,fun c=>⟨rfl,fun D hD hρ=>?_⟩⟩
     obtain⟨k1,k2⟩:=hρ 0 (s,g) rfl
     simp only[Nat.add_zero] at k1 k2
     refine⟨?_,fun i e' k hi hk=>?_⟩
     ·have:=RelV.own (C:=D) d c k1 (by rw[k2];exact h1)
      rw[k2] at this
      exact this
     ·match i with
      | 0 =>
        simp only[opnC,ownKey,List.getElem?_cons_zero,Option.some.injEq] at hi hk
        subst hi;subst hk
        exact⟨xs,ho,hc.flat hf fun b o hb=>hD _ _ (hH _ _ hb)⟩
      | i+1=>simp[ownKey] at hk
    ·cases h
   ·cases h
  ·cases h
theorem goodL {f:Nat→AV→AV × List Ent} {kf:AV→List (Nat × Nat)} {d:Nat}:∀ (xs ys:List AV) (us:List Value),xs.length=ys.length→xs.length=us.length →
 (∀ (i:Nat) (x y:AV) (u:Value),xs[i]? = some x→ys[i]? = some y→us[i]? = some u→GoodU w0 ρ st w d H f y (kf x) u) →
 (∀ k∈xs.flatMap kf,∃ e,st.heap k.1 k.2=some e)∧∀ c,(opnL f c ys).2.length=(xs.flatMap kf).length∧∀ D:Ctx,(∀ b o,H b o→D.h b o) →
  (∀ (i:Nat) (k:Nat × Nat),(xs.flatMap kf)[i]? = some k→c+i < D.cnt d∧D.ρ d (c+i)=ρ k.1 k.2) →
  RelL D (opnL f c ys).1 us∧∀ (i:Nat) (e:Ent) (k:Nat × Nat),(opnL f c ys).2[i]? = some e→(xs.flatMap kf)[i]? = some k→EntRel D w w0.heap.size (ρ k.1 k.2) e
 | [],ys,us,h1,h2,_=>by
   have e1:ys=[]:=List.length_eq_zero_iff.1 (by simpa using h1.symm)
   have e2:us=[]:=List.length_eq_zero_iff.1 (by simpa using h2.symm)
   subst e1;subst e2
   exact⟨by simp,fun c=>⟨rfl,fun D _ _=>⟨.nil _,by simp[opnL]⟩⟩⟩
 | x :: xs,[],us,h1,_,_=>by simp at h1
 | x :: xs,y :: ys,[],_,h2,_=>by simp at h2
 | x :: xs,y :: ys,u :: us,h1,h2,hg=>by
   obtain⟨g1,g2⟩:=hg 0 x y u rfl rfl rfl
   obtain⟨i1,i2⟩:=goodL xs ys us (by simpa using h1) (by simpa using h2) fun i x' y' u' hx hy hu=>hg (i+1) x' y' u' (by simpa using hx) (by simpa using hy) (by simpa using hu)
   refine⟨fun k hk=>?_,fun c=>?_⟩
   ·simp only[List.flatMap_cons,List.mem_append] at hk
    rcases hk with hk | hk
    ·exact g1 k hk
    ·exact i1 k hk
   ·obtain⟨l1,m1⟩:=g2 c
    obtain⟨l2,m2⟩:=i2 (c+(f c y).2.length)
    rw[l1] at l2 m2
    simp only[opnL,List.flatMap_cons,List.length_append,l1]
    refine⟨by rw[l2],fun D hD hρ=>?_⟩
    obtain⟨r1,e1⟩:=m1 D hD fun i k hk=>hρ i k (by rw[List.getElem?_append_left (List.getElem?_eq_some_iff.1 hk).1];exact hk)
    obtain⟨r2,e2⟩:=m2 D hD fun i k hk=>by
     have:=hρ ((kf x).length+i) k (by rw[List.getElem?_append_right (by omega)];simpa using hk)
     rw[Nat.add_assoc]
     exact this
    refine⟨.cons r1 r2,fun i e k hi hk=>?_⟩
    by_cases hlt:i < (kf x).length
    ·rw[List.getElem?_append_left (by rw[l1];exact hlt)] at hi
     rw[List.getElem?_append_left hlt] at hk
     exact e1 i e k hi hk
    ·rw[List.getElem?_append_right (by rw[l1];omega),l1] at hi
     rw[List.getElem?_append_right (by omega)] at hk
     exact e2 _ e k hi hk
theorem optAll_get {α β:Type} {f:α→Option β} {l:List α} {r:List β} (h:optAll (l.map f)=some r):l.length=r.length∧∀ (i:Nat) x y,l[i]? = some x→r[i]? = some y→f x=some y:=by
 have hm:=optAll_spec _ _ h
 have hl:l.length=r.length:=by have:=congrArg List.length hm;simpa using this
 refine⟨hl,fun i x y hx hy=>?_⟩
 have:=congrArg (·[i]?) hm
 simp only[List.getElem?_map,hx,hy,Option.map_some,Option.some.injEq] at this
 exact this
theorem good1 (S:Sim F h0 w0 nt ρ st a w) (hH:∀ b o,(ctx h0 w0 ρ st w).h b o→H b o) {x y:AV} {u:Value} (hu:RelV (ctx h0 w0 ρ st w) x u) (h:expoU1 st x=some y) (d:Nat):GoodU w0 ρ st w d H (opn1 d) y (ownKeys1 x) u:=by
 cases x
 case agg cs =>
  simp only[expoU1,Option.map_eq_some_iff] at h
  obtain⟨ds,hds,rfl⟩:=h
  obtain⟨hl,hget⟩:=optAll_get hds
  cases hu with
  | agg _ ar hla hr h1 =>
    obtain⟨g1,g2⟩:=goodL (w0:=w0) (ρ:=ρ) (st:=st) (w:=w) (H:=H) (f:=opnC d) (kf:=ownKey) (d:=d) cs ds ar.toList hl (by simpa using hla) fun i x y v hx hy hv=>goodC S hH (hr i x v hx (by simpa using hv)) (hget i x y hx hy) d
    refine⟨g1,fun c=>?_⟩
    obtain⟨l1,m1⟩:=g2 c
    refine⟨l1,fun D hD hρ=>?_⟩
    obtain⟨r1,e1⟩:=m1 D hD hρ
    exact⟨.agg _ ar (by simpa using r1.len) (fun i x y hx hy=>r1.rel i x y hx (by simpa using hy)) h1,e1⟩
 all_goals
  have g:=goodC S hH hu h d
  cases y<;>first | exact g | skip
  all_goals
   exfalso
   simp only[expoU1] at h
   unfold expoUC at h
   split at h
   ·simp at h
   ·simp at h
    try (split at h<;>(try split at h)<;>simp at h)
theorem goodU (S:Sim F h0 w0 nt ρ st a w) (hH:∀ b o,(ctx h0 w0 ρ st w).h b o→H b o) {x y:AV} {u:Value} (hu:RelV (ctx h0 w0 ρ st w) x u) (h:expoU st x=some y) (d:Nat):GoodU w0 ρ st w d H (opn d) y (ownKeys x) u:=by
 cases x
 case tup cs =>
  simp only[expoU,Option.map_eq_some_iff] at h
  obtain⟨ds,hds,rfl⟩:=h
  obtain⟨hl,hget⟩:=optAll_get hds
  cases hu with
  | tup _ ar hla hr =>
    obtain⟨g1,g2⟩:=goodL (w0:=w0) (ρ:=ρ) (st:=st) (w:=w) (H:=H) (f:=opn1 d) (kf:=ownKeys1) (d:=d) cs ds ar.toList hl (by simpa using hla) fun i x y v hx hy hv=>good1 S hH (hr i x v hx (by simpa using hv)) (hget i x y hx hy) d
    refine⟨g1,fun c=>?_⟩
    obtain⟨l1,m1⟩:=g2 c
    refine⟨l1,fun D hD hρ=>?_⟩
    obtain⟨r1,e1⟩:=m1 D hD hρ
    exact⟨.tup _ ar (by simpa using r1.len) (fun i x y hx hy=>r1.rel i x y hx (by simpa using hy)),e1⟩
 case agg cs =>
  have g:=good1 S hH hu h d
  cases y<;>first | exact g | (simp only[expoU,expoU1,Option.map_eq_some_iff] at h;obtain⟨_,_,h⟩:=h;cases h)
 all_goals
  have g:=goodC S hH hu h d
  cases y<;>first | exact g | skip
  all_goals
   exfalso
   simp only[expoU,expoU1] at h
   unfold expoUC at h
   split at h
   ·simp at h
   ·simp at h
    try (split at h<;>(try split at h)<;>simp at h)
theorem expoU_sound (S:Sim F h0 w0 nt ρ st a w) {x r:AV} {u:Value} (hu:RelV (ctx h0 w0 ρ st w) x u) (hn:(ownKeys x).Nodup) (h:expoU st x=some r):RelR h0 w0 w r u:=by
 have hH:∀ b o,(ctx h0 w0 ρ st w).h b o→newHs h0 w0 w ((ownKeys x).map fun k=>ρ k.1 k.2) b o:=fun b o hb=>by
  have g:=(goodU (H:=(ctx h0 w0 ρ st w).h) S (fun _ _ h=>h) hu h 0).1
  refine⟨hb.1,hb.2.1,fun y hy=>?_⟩
  obtain⟨k,hk,rfl⟩:=List.mem_map.1 hy
  obtain⟨e,he⟩:=g k hk
  exact hb.2.2 _ _ e he
 have g:=fun d=>goodU S hH hu h d
 have key:∀ y∈(ownKeys x).map (fun k=>ρ k.1 k.2),∃ k e,k∈ownKeys x∧y=ρ k.1 k.2∧st.heap k.1 k.2=some e:=fun y hy=>by
  obtain⟨k,hk,rfl⟩:=List.mem_map.1 hy
  obtain⟨e,he⟩:=(g 0).1 k hk
  exact⟨k,e,hk,rfl,he⟩
 refine⟨(ownKeys x).map fun k=>ρ k.1 k.2,fun y hy=>?_,fun i j y z b hy hz hb hb'=>?_,fun y hy b hb=>?_,fun d c=>by rw[((g d).2 c).1];simp,fun D d c hD hρ=>?_⟩
 ·obtain⟨k,e,_,rfl,he⟩:=key y hy
  exact (S.ent _ _ e he).2.1
 ·rw[List.getElem?_map] at hy hz
  cases hi:(ownKeys x)[i]? with
  | none=>simp[hi] at hy
  | some k=>cases hj:(ownKeys x)[j]? with
    | none=>simp[hj] at hz
    | some k' =>
      simp only[hi,hj,Option.map_some,Option.some.injEq] at hy hz
      subst hy;subst hz
      obtain⟨e,he⟩:=(g 0).1 k (List.mem_of_getElem? hi)
      obtain⟨e',he'⟩:=(g 0).1 k' (List.mem_of_getElem? hj)
      obtain⟨q1,q2⟩:=S.inj _ _ _ _ e e' b he he' hb hb'
      have hkk:k=k':=Prod.ext q1 q2
      subst hkk
      obtain⟨hil,hie⟩:=List.getElem?_eq_some_iff.1 hi
      obtain⟨hjl,hje⟩:=List.getElem?_eq_some_iff.1 hj
      have hp:=List.pairwise_iff_getElem.1 hn
      rcases Nat.lt_trichotomy i j with hlt | heq | hlt
      ·exact absurd (hie.trans hje.symm) (hp i j hil hjl hlt)
      ·exact heq
      ·exact absurd (hje.trans hie.symm) (hp j i hjl hil hlt)
 ·obtain⟨k,e,_,rfl,he⟩:=key y hy
  exact ((S.ent _ _ e he).2.2.blk b hb).1
 ·obtain⟨r1,e1⟩:=((g d).2 c).2 D hD fun i k hk=>hρ i _ (by rw[List.getElem?_map,hk];rfl)
  refine⟨r1,fun i e y hi hy=>?_⟩
  rw[List.getElem?_map] at hy
  cases hk:(ownKeys x)[i]? with
  | none=>simp[hk] at hy
  | some k =>
    simp only[hk,Option.map_some,Option.some.injEq] at hy
    subst hy
    exact e1 i e k hi hk
end keep
theorem finishK_sound {h0:Nat→Obj→Prop} {w0:World} {F:Frm} {nt:Nat} {ρ:Nat→Nat→Value} {st:St} {a:Act} {w:World} (S:Sim F h0 w0 nt ρ st a w) {fn:Func} {r:AV} (h:finishK P fn st=some r) :
 ∃ v,(results fn a.tmps).run P w=.ok v w∧RelR h0 w0 w r v:=by
 have hres:∀ (ys:List Value),(fn.results.toList.mapM (resOne a.tmps)).run P w=.ok ys w →
  (results fn a.tmps).run P w=.ok (if h:ys.toArray.size=1 then ys.toArray[0] else .tuple ys.toArray) w:=by
  intro ys hys
  have e:results fn a.tmps=(do let vs ← fn.results.mapM (resOne a.tmps);pure (if h:vs.size=1 then vs[0] else .tuple vs)):=by
   unfold results
   congr 1
  rw[e,Array.mapM_eq_mapM_toList]
  simp only[Sem.run_bind,Sem.run_map,hys,Result.andThen_ok,Sem.run_pure]
 unfold finishK at h
 split at h
 ·rename_i r1 hr1
  cases h1:resVal P st r1 with
  | none=>simp[h1,bnd] at h
  | some x =>
    simp only[h1,bnd] at h
    split at h
    ·rename_i hn
     obtain⟨ys,hys,hrel⟩:=results_list (P:=P) S [r1] [x] (by simp[h1])
     have hlen:=hrel.len
     obtain⟨y,rfl⟩:∃ y,ys=[y]:=by
      cases ys with
      | nil=>simp at hlen
      | cons y ys=>cases ys with
        | nil=>exact⟨y,rfl⟩
        | cons z zs=>simp at hlen
     have hrun:=hres [y] (by rw[hr1];exact hys)
     simp at hrun
     exact⟨y,hrun,expoU_sound S hrel.head hn h⟩
    ·cases h
 ·rename_i rs hne
  cases hxs:optAll (fn.results.toList.map fun r=>resVal P st r) with
  | none=>simp[hxs,bnd] at h
  | some xs =>
    simp only[hxs,bnd] at h
    split at h
    ·rename_i hn
     have e1:=optAll_spec _ _ hxs
     obtain⟨ys,hys,hrel⟩:=results_list S _ xs e1
     have hl1:xs.length=fn.results.toList.length:=by have:=congrArg List.length e1;simpa using this.symm
     have hne1:ys.toArray.size≠1:=by
      intro h1
      have hlen:=hrel.len
      simp only[List.size_toArray] at h1
      have:fn.results.toList.length=1:=by omega
      obtain⟨z,hz⟩:=List.length_eq_one_iff.1 this
      exact hne z hz
     have hrun:=hres ys hys
     rw[dif_neg hne1] at hrun
     exact⟨_,hrun,expoU_sound S (.tup xs ys.toArray (by simpa using hrel.len) fun i x y hx hy=>hrel.rel i x y hx (by simpa using hy)) hn h⟩
    ·cases h
theorem finishF_sound {h0:Nat→Obj→Prop} {w0:World} {F:Frm} {nt:Nat} {ρ:Nat→Nat→Value} {st:St} {a:Act} {w:World} (S:Sim F h0 w0 nt ρ st a w) {f:Nat} {fn:Func} {r:AV} (h:finishF P f fn st=some r) :
 ∃ v,(results fn a.tmps).run P w=.ok v w∧RelR h0 w0 w r v:=by
 unfold finishF at h
 split at h
 ·exact finishK_sound S h
 ·exact finish_sound S h
theorem init_sim {h0:Nat→Obj→Prop} {w:World} {xs:List AV} {vs:Array Value} {nt:Nat} (hh:∀ b o,h0 b o→w.heap[b]? = some o) (hrel:RelL (bare h0) xs vs.toList) :
 Sim Frm.none h0 w nt (fun _ _=>undef) (St.init xs) { tmps:=vs ++ Array.replicate (nt - vs.size) undef,defers:=[]} w:=by
 have k:(bare h0).Le (ctx h0 w (fun _ _=>undef) (St.init xs) w):=⟨fun b o h=>⟨hh b o h,fun _=>h,fun s g e he=>by simp[St.init] at he⟩,fun _=>Nat.le_refl _,fun _ _ h=>absurd h (by simp[bare])⟩
 refine⟨fun t=>?_,fun s g e he=>by simp[St.init] at he,fun s g s' g' e e' b he=>by simp[St.init] at he,⟨rfl,rfl,rfl,Nat.le_refl _,fun _ _ _=>rfl⟩,by simp;omega,rfl,⟨fun x v h=>h.elim,fun b o h=>h.elim,Nat.zero_le _⟩⟩
 have hlen:=hrel.len
 simp only[Array.length_toList] at hlen
 show RelV _ ((xs[t]?).getD (.v undef)) _
 by_cases ht:t < vs.size
 ·have hx:xs[t]? = some (xs[t]'(by omega)):=by simp[show t < xs.length by omega]
  have hy:vs.toList[t]? = some vs[t]:=by simp[ht]
  have:=(hrel.rel t _ _ hx hy).le k
  rw[hx]
  simp only[Option.getD_some]
  have e:(vs ++ Array.replicate (nt - vs.size) undef).getD t undef=vs[t]:=by
   simp[Array.getElem?_append_left ht,ht]
  rw[e]
  exact this
 ·have hx:xs[t]? = none:=List.getElem?_eq_none (by omega)
  rw[hx]
  have e:(vs ++ Array.replicate (nt - vs.size) undef).getD t undef=undef:=by
   rw[Array.getD_eq_getD_getElem?,Array.getElem?_append_right (by omega),Array.getElem?_replicate]
   split<;>rfl
  rw[e]
  exact .v _
def ExtOk (P:Program):Prop:=CallOk P Ext.ext
theorem inl_sim {h0:Nat→Obj→Prop} {w0:World} {F:Frm} {nt:Nat} {ρ:Nat→Nat→Value} {st:St} {a:Act} {w:World} (S:Sim F h0 w0 nt ρ st a w) {xs:List AV} {vs:Array Value} {n:Nat} (hrel:RelL (ctx h0 w0 ρ st w) xs vs.toList) :
 Sim ⟨fun x v=>F.fr x v∨∃ t,x=st.env t∧v=a.tmps.getD t undef,F.hb,F.sz⟩ h0 w0 n ρ ((St.init xs).back st) { tmps:=vs ++ Array.replicate (n - vs.size) undef,defers:=[]} w:=by
 have hc:ctx h0 w0 ρ ((St.init xs).back st) w=ctx h0 w0 ρ st w:=rfl
 refine⟨fun t=>?_,fun s g e he=>?_,fun s g s' g' e e' b he he'=>S.inj s g s' g' e e' b he he',S.ext,by simp;omega,rfl,⟨fun x v h=>?_,S.frm.2.1,S.frm.2.2⟩⟩
 ·have hlen:=hrel.len
  simp only[Array.length_toList] at hlen
  show RelV _ ((xs[t]?).getD (.v undef)) _
  by_cases ht:t < vs.size
  ·have hx:xs[t]? = some (xs[t]'(by omega)):=by simp[show t < xs.length by omega]
   have hy:vs.toList[t]? = some vs[t]:=by simp[ht]
   have:=hrel.rel t _ _ hx hy
   rw[hx]
   simp only[Option.getD_some]
   have e:(vs ++ Array.replicate (n - vs.size) undef).getD t undef=vs[t]:=by
    simp[Array.getElem?_append_left ht,ht]
   rw[e]
   exact this
  ·have hx:xs[t]? = none:=List.getElem?_eq_none (by omega)
   rw[hx]
   have e:(vs ++ Array.replicate (n - vs.size) undef).getD t undef=undef:=by
    rw[Array.getD_eq_getD_getElem?,Array.getElem?_append_right (by omega),Array.getElem?_replicate]
    split<;>rfl
   rw[e]
   exact .v _
 ·exact S.ent s g e he
 ·rcases h with h | ⟨t,rfl,rfl⟩
  ·exact S.frm.1 x v h
  ·exact S.env t
theorem finishI_sound {h0:Nat→Obj→Prop} {w0:World} {F:Frm} {nt:Nat} {ρ:Nat→Nat→Value} {st:St} {a:Act} {w:World} (S:Sim F h0 w0 nt ρ st a w) {fn:Func} {r:AV} (h:finishI P fn st=some r) :
 ∃ v,(results fn a.tmps).run P w=.ok v w∧RelV (ctx h0 w0 ρ st w) r v:=by
 have hres:∀ (ys:List Value),(fn.results.toList.mapM (resOne a.tmps)).run P w=.ok ys w →
  (results fn a.tmps).run P w=.ok (if h:ys.toArray.size=1 then ys.toArray[0] else .tuple ys.toArray) w:=by
  intro ys hys
  have e:results fn a.tmps=(do let vs ← fn.results.mapM (resOne a.tmps);pure (if h:vs.size=1 then vs[0] else .tuple vs)):=by
   unfold results
   congr 1
  rw[e,Array.mapM_eq_mapM_toList]
  simp only[Sem.run_bind,Sem.run_map,hys,Result.andThen_ok,Sem.run_pure]
 unfold finishI at h
 split at h
 ·rename_i r1 hr1
  obtain⟨ys,hys,hrel⟩:=results_list (P:=P) S [r1] [r] (by simp[h])
  have hlen:=hrel.len
  obtain⟨y,rfl⟩:∃ y,ys=[y]:=by
   cases ys with
   | nil=>simp at hlen
   | cons y ys=>cases ys with
     | nil=>exact⟨y,rfl⟩
     | cons z zs=>simp at hlen
  have hrun:=hres [y] (by rw[hr1];exact hys)
  simp at hrun
  exact⟨y,hrun,hrel.head⟩
 ·rename_i rs hne
  cases hxs:optAll (fn.results.toList.map fun r=>resVal P st r) with
  | none=>simp[hxs] at h
  | some xs =>
    simp only[hxs,Option.map_some,Option.some.injEq] at h
    subst h
    have e1:=optAll_spec _ _ hxs
    obtain⟨ys,hys,hrel⟩:=results_list S _ xs e1
    have hl1:xs.length=fn.results.toList.length:=by have:=congrArg List.length e1;simpa using this.symm
    have hne1:ys.toArray.size≠1:=by
     intro h1
     have hlen:=hrel.len
     simp only[List.size_toArray] at h1
     have:fn.results.toList.length=1:=by omega
     obtain⟨z,hz⟩:=List.length_eq_one_iff.1 this
     exact hne z hz
    have hrun:=hres ys hys
    rw[dif_neg hne1] at hrun
    exact⟨_,hrun,.tup xs ys.toArray (by simpa using hrel.len) fun i x y hx hy=>hrel.rel i x y hx (by simpa using hy)⟩
theorem headUniq_spec {xs:List AV} {u:Nat × Nat × Nat × List AV × List AV} (h:headUniq xs=some u):xs=.uniq u.1 u.2.1 u.2.2.1 u.2.2.2.1 :: u.2.2.2.2:=by
 unfold headUniq at h
 split at h
 ·simp only[Option.some.injEq] at h
  subst h
  rfl
 ·cases h
theorem initM_sim {h0:Nat→Obj→Prop} {w:World} {v0:Value} {e sz m:Nat} {cs xs:List AV} {ys:List Value} {vs:Array Value} {nt:Nat} (hh:∀ b o,h0 b o→w.heap[b]? = some o) (hne:∀ b o,h0 b o→blkOf v0≠some b) (ho:ownsR w 0 e sz v0 m ys) (hc:CellL (bare h0) cs ys) (hrel:RelL (bare h0) xs vs.toList) :
 Sim ⟨fun _ _=>False,fun b o=>w.heap[b]? = some o∧blkOf v0≠some b,w.heap.size⟩ h0 { w with heap:=#[]} nt (fun s g=>if s=0∧g=0 then v0 else undef) (St.initM e sz m cs xs) { tmps:=(#[v0] ++ vs) ++ Array.replicate (nt - (#[v0] ++ vs).size) undef,defers:=[]} w:=by
 have hown:∀ s g e',(St.initM e sz m cs xs).heap s g=some e'→s=0∧g=0∧e'=.row e sz m cs:=fun s g e' h=>by
  simp only[St.initM] at h
  split at h
  ·rename_i h1;cases h;exact⟨h1.1,h1.2,rfl⟩
  ·cases h
 have k:(bare h0).Le (ctx h0 { w with heap:=#[]} (fun s g=>if s=0∧g=0 then v0 else undef) (St.initM e sz m cs xs) w) :=
  ⟨fun b o h=>⟨hh b o h,fun hlt=>by simp at hlt,fun s g e' he=>by
   obtain⟨rfl,rfl,_⟩:=hown _ _ _ he
   exact hne b o h⟩,fun _=>Nat.zero_le _,fun _ _ h=>absurd h (by simp[bare])⟩
 refine⟨fun t=>?_,fun s g e' he=>?_,fun s g s' g' e1 e2 b he he' _ _=>?_,⟨rfl,rfl,rfl,Nat.zero_le _,fun b hb _=>by simp at hb⟩,by simp;omega,rfl,⟨fun x v h=>h.elim,fun b o h=>⟨h.1,fun hlt=>by simp at hlt,fun s g e' he=>?_⟩,Nat.le_refl _⟩⟩
 ·have hlen:=hrel.len
  simp only[Array.length_toList] at hlen
  cases t with
  | zero =>
    have e0:((#[v0] ++ vs) ++ Array.replicate (nt - (#[v0] ++ vs).size) undef).getD 0 undef=v0:=by
     simp[Array.getElem?_append]
    rw[e0]
    have:=RelV.own (C:=ctx h0 { w with heap:=#[]} (fun s g=>if s=0∧g=0 then v0 else undef) (St.initM e sz m cs xs) w) 0 0 (by show 0 < (St.initM e sz m cs xs).cnt 0;simp[St.initM]) (by show (if (0:Nat)=0∧(0:Nat)=0 then v0 else undef).oneCell'=true;simp;exact ownsR_one ho)
    have e1:(ctx h0 { w with heap:=#[]} (fun s g=>if s=0∧g=0 then v0 else undef) (St.initM e sz m cs xs) w).ρ 0 0=v0:=by show (if (0:Nat)=0∧(0:Nat)=0 then v0 else undef)=v0;simp
    rw[e1] at this
    exact this
  | succ t =>
    show RelV _ ((xs[t]?).getD (.v undef)) _
    by_cases ht:t < vs.size
    ·have hx:xs[t]? = some (xs[t]'(by omega)):=by simp[show t < xs.length by omega]
     have hy:vs.toList[t]? = some vs[t]:=by simp[ht]
     have:=(hrel.rel t _ _ hx hy).le k
     rw[hx]
     simp only[Option.getD_some]
     have e2:((#[v0] ++ vs) ++ Array.replicate (nt - (#[v0] ++ vs).size) undef).getD (t+1) undef=vs[t]:=by
      rw[Array.getD_eq_getD_getElem?,Array.getElem?_append_left (by simp;omega),Array.getElem?_append_right (by simp)]
      simp[ht]
     rw[e2]
     exact this
    ·have hx:xs[t]? = none:=List.getElem?_eq_none (by omega)
     rw[hx]
     have e2:((#[v0] ++ vs) ++ Array.replicate (nt - (#[v0] ++ vs).size) undef).getD (t+1) undef=undef:=by
      rw[Array.getD_eq_getD_getElem?,Array.getElem?_append_right (by simp;omega),Array.getElem?_replicate]
      split<;>rfl
     rw[e2]
     exact .v _
 ·obtain⟨rfl,rfl,rfl⟩:=hown _ _ _ he
  refine⟨by simp[St.initM],by simp;exact ownsR_one ho, ?_⟩
  simp only[and_self,if_true]
  exact⟨ys,ho,hc.le k⟩
 ·obtain⟨rfl,rfl,_⟩:=hown _ _ _ he
  obtain⟨rfl,rfl,_⟩:=hown _ _ _ he'
  exact⟨rfl,rfl⟩
 ·obtain⟨rfl,rfl,_⟩:=hown _ _ _ he
  exact h.2
theorem runM_ok (hm:P.follows .mixedOrders=true) {call:Nat→List AV→Option AV} {inl:Nat→List AV→St→Option (AV × St)} (hcall:CallOk P call) (hinl:InlOk P inl) {n g:Nat} {xs:List AV} {u:Nat × Nat × Nat × List AV × List AV} (hq:headUniq xs=some u) {r:AV}
 (h:runM P call inl n g u.1 u.2.1 u.2.2.1 u.2.2.2.1 u.2.2.2.2=some r):Enters P g∧SoundX P g xs r:=by
 have hxs:=headUniq_spec hq
 subst hxs
 obtain⟨e,sz,m,cs,rest⟩:=u
 simp only at h ⊢
 unfold runM at h
 cases hf:P.funcs[g]? with
 | none=>simp[hf] at h
 | some fn =>
   simp only[hf] at h
   split at h
   ·rename_i hok
    cases hb:fn.body with
    | none=>simp[hb] at h
    | some c =>
      simp only[hb] at h
      simp only[fnOk,fnOkB,hb,Bool.and_eq_true,bne_iff_ne,ne_eq] at hok
      refine⟨⟨fn,hf,by simpa using hok.1,by simp[hb]⟩, ?_⟩
      show SoundM P g e sz m cs rest r
      intro w h0 v0 ys vs hh hne ho hcl hrel
      cases h1:evC P (codeInl c) call inl n c (St.initM e sz m cs rest) with
      | none=>simp[h1,bnd] at h
      | some es =>
        obtain⟨ex,sf⟩:=es
        simp only[h1,bnd] at h
        refine calls_of_wp hf hb ?_
        refine evC_sound hm hcall hinl n c (St.initM e sz m cs rest) sf ex _ _ w _ hok.2 (initM_sim hh hne ho hcl hrel) h1 fun ρ' a' w' S'=>?_
        have fin:finishM P fn sf=some r→∃ e' sz' n' cs',r=.uniq e' sz' n' cs'∧a'.defers=[]∧∃ v',(results fn a'.tmps).run P w'=.ok v' w'∧w.grownBy w' (blkOf v0) ∧
         ∃ zs,ownsR w' 0 e' sz' v' n' zs∧CellL (bare h0) cs' zs∧∀ b,blkOf v'=some b→blkOf v0=some b∨w.heap.size≤b:=fun h=>by
         unfold finishM at h
         split at h
         ·rename_i r1 hr1
          split at h
          ·rename_i s k hrv
           split at h
           ·rename_i e' sz' n' cs' hhp
            split at h
            ·rename_i hmf
             simp only[Option.some.injEq] at h
             subst h
             obtain⟨y,hy,hrel'⟩:=results_list (P:=P) S' [r1] [.own s k] (by simp[hrv])
             have hlen:=hrel'.len
             obtain⟨z,rfl⟩:∃ z,y=[z]:=by
              cases y with
              | nil=>simp at hlen
              | cons y ys=>cases ys with
                | nil=>exact⟨y,rfl⟩
                | cons z zs=>simp at hlen
             have hz:z=ρ' s k:=by
              have:=hrel'.head
              cases this
              rfl
             subst hz
             have hrun:(results fn a'.tmps).run P w'=.ok (ρ' s k) w':=by
              have e1:results fn a'.tmps=(do let vs ← fn.results.mapM (resOne a'.tmps);pure (if h:vs.size=1 then vs[0] else .tuple vs)):=by
               unfold results
               congr 1
              rw[e1,Array.mapM_eq_mapM_toList,hr1]
              simp only[Sem.run_bind,Sem.run_map,hy,Result.andThen_ok,Sem.run_pure]
              simp
             obtain⟨_,_,zs,hzo,hzc⟩:=S'.ent s k _ hhp
             obtain⟨_,hkb,hsz⟩:=S'.frm
             refine⟨e',sz',n',cs',rfl,S'.defers,_,hrun,⟨S'.ext.os,S'.ext.tape,S'.ext.output,hsz,fun b hb hnb=>?_⟩,zs, ?_, ?_,fun b hb=>?_⟩
             ·have hbo:w.heap[b]? = some w.heap[b]:=Array.getElem?_eq_getElem hb
              rw[hbo]
              exact (hkb b _ ⟨hbo,fun h=>hnb h.symm⟩).1
             ·exact ownsR_base hzo (Nat.zero_le _)
             ·exact⟨hzc.len,fun i x y hx hy=>(hzc.rel i x y hx hy).memFree (hmf x (List.mem_of_getElem? hx)),hzc.one⟩
             ·by_cases h1:blkOf v0=some b
              ·exact .inl h1
              ·right
               rcases Nat.lt_or_ge b w.heap.size with hlt | hge
               ·exfalso
                have hbo:w.heap[b]? = some w.heap[b]:=Array.getElem?_eq_getElem hlt
                exact (hkb b _ ⟨hbo,h1⟩).2.2 s k _ hhp hb
               ·exact hge
            ·cases h
           ·cases h
          ·cases h
         ·cases h
        cases ex with
        | normal=>obtain⟨e',sz',n',cs',rfl,h1,v',h2,h3,h4⟩:=fin h;exact⟨h1,v',h2,v',rfl,h3,h4⟩
        | ret=>obtain⟨e',sz',n',cs',rfl,h1,v',h2,h3,h4⟩:=fin h;exact⟨h1,v',h2,v',rfl,h3,h4⟩
        | exit id=>cases h
   ·cases h
theorem evFI_ok (hm:P.follows .mixedOrders=true) (hx:ExtOk P):∀ n,CallOk P (evF P n)∧InlOk P (evI P n)
 | 0=>⟨fun g xs r h=>hx g xs r h,fun g xs st r s' h=>by cases h⟩
 | n+1=>by
   obtain⟨ihc,ihi⟩:=evFI_ok hm hx n
   refine⟨fun g xs r h=>?_,fun g xs st r s' h=>?_⟩
   ·rw[evF_succ] at h
    split at h
    ·rename_i r' he
     simp only[Option.some.injEq] at h
     subst h
     exact hx g xs _ he
    ·cases hq:headUniq xs with
     | some u =>
       simp only[hq] at h
       exact runM_ok hm ihc ihi hq h
     | none =>
     simp only[hq] at h
     split at h
     ·cases h
     rename_i hnu
     unfold runF at h
     cases hf:P.funcs[g]? with
     | none=>simp[hf] at h
     | some fn =>
       simp only[hf] at h
       split at h
       ·rename_i hok
        cases hb:fn.body with
        | none=>simp[hb] at h
        | some c =>
          simp only[hb] at h
          simp only[fnOk,fnOkB,hb,Bool.and_eq_true,bne_iff_ne,ne_eq] at hok
          have hX:SoundC P g xs r→SoundX P g xs r:=fun h=>by
           unfold SoundX
           split
           ·simp[isUniq] at hnu
           ·exact h
          refine⟨⟨fn,hf,by simpa using hok.1,by simp[hb]⟩,hX fun w h0 vs hh hrel=>?_⟩
          cases h1:evC P (codeInl c) (evF P n) (evI P n) n c (St.init xs) with
          | none=>simp[h1,bnd] at h
          | some es =>
            obtain⟨ex,sf⟩:=es
            simp only[h1,bnd] at h
            refine calls_of_wp hf hb ?_
            refine evC_sound hm ihc ihi n c (St.init xs) sf ex _ _ w _ hok.2 (init_sim hh hrel) h1 fun ρ' a' w' S'=>?_
            have fin:finishF P g fn sf=some r→a'.defers=[]∧∃ v,(results fn a'.tmps).run P w'=.ok v w'∧∃ v',Ending.returned v=.returned v'∧RelR h0 w w' r v'∧w.grownBy w' none:=fun h=>by
             obtain⟨v,hv,hr⟩:=finishF_sound S' h
             exact⟨S'.defers,v,hv,v,rfl,hr,S'.ext⟩
            cases ex with
            | normal=>exact fin h
            | ret=>exact fin h
            | exit id=>cases h
       ·cases h
   ·rw[evI_succ] at h
    unfold runI at h
    cases hf:P.funcs[g]? with
    | none=>simp[hf] at h
    | some fn =>
      simp only[hf] at h
      split at h
      ·rename_i hok
       cases hb:fn.body with
       | none=>simp[hb] at h
       | some c =>
         simp only[hb] at h
         simp only[fnOkB,hb,Bool.and_eq_true,bne_iff_ne,ne_eq] at hok
         refine⟨⟨fn,hf,by simpa using hok.1,by simp[hb]⟩,fun F h0 w0 nt ρ a w vs K S hrel hK=>?_⟩
         cases h1:evC P true (evF P n) (evI P n) n c ((St.init xs).back st) with
         | none=>simp[h1,bnd] at h
         | some es =>
           obtain⟨ex,sf⟩:=es
           simp only[h1,bnd] at h
           refine calls_of_wp hf hb ?_
           refine evC_sound (F:=⟨fun x v=>F.fr x v∨∃ t,x=st.env t∧v=a.tmps.getD t undef,F.hb,F.sz⟩) hm ihc ihi n c ((St.init xs).back st) sf ex _ _ w _ hok.2 (inl_sim S hrel) h1 fun ρ' a' w' S'=>?_
           have fin:((finishI P fn sf).map fun x=>(x,sf))=some (r,s')→a'.defers=[]∧∃ v,(results fn a'.tmps).run P w'=.ok v w'∧∃ v',Ending.returned v=.returned v'∧K v' w':=fun h=>by
            cases hfi:finishI P fn sf with
            | none=>simp[hfi] at h
            | some x =>
              simp only[hfi,Option.map_some,Option.some.injEq,Prod.mk.injEq] at h
              obtain⟨rfl,rfl⟩:=h
              obtain⟨v,hv,hr⟩:=finishI_sound S' hfi
              refine⟨S'.defers,v,hv,v,rfl,hK ρ' w' v ?_ hr⟩
              exact⟨fun t=>S'.frm.1 _ _ (.inr ⟨t,rfl,rfl⟩),fun s g e he=>S'.ent s g e he,fun s g s2 g' e e' b he he'=>S'.inj s g s2 g' e e' b he he',S'.ext,S.size,S.defers,⟨fun x v h=>S'.frm.1 x v (.inl h),S'.frm.2.1,S'.frm.2.2⟩⟩
           cases ex with
           | normal=>exact fin h
           | ret=>exact fin h
           | exit id=>cases h
      ·cases h
theorem evF_ok (hm:P.follows .mixedOrders=true) (hx:ExtOk P) (n:Nat):CallOk P (evF P n):=(evFI_ok hm hx n).1
end
end Go.Ab
end
section
namespace Go.Ab
open Classical
variable [Ext]
noncomputable def lim {α:Type} (g:Nat→Option α):Option α:=if h:∃ n r,g n=some r then some (Classical.choose (Classical.choose_spec h)) else none
theorem mono_le {α:Type} {g:Nat→Option α} (hm:∀ n r,g n=some r→g (n+1)=some r) {n m:Nat} (h:n≤m) {r:α} (hr:g n=some r):g m=some r:=by
 induction m with
 | zero=>have:n=0:=by omega
         subst this;exact hr
 | succ m ih =>
   rcases Nat.lt_or_ge m n with h' | h'
   ·have:n=m+1:=by omega
    subst this;exact hr
   ·exact hm m r (ih h')
theorem lim_iff {α:Type} {g:Nat→Option α} (hm:∀ n r,g n=some r→g (n+1)=some r) (r:α):lim g=some r↔∃ n,g n=some r:=by
 unfold lim
 constructor
 ·intro h
  split at h
  ·rename_i hh
   simp only[Option.some.injEq] at h
   exact⟨Classical.choose hh,by rw[← h];exact Classical.choose_spec (Classical.choose_spec hh)⟩
  ·cases h
 ·rintro⟨n,hn⟩
  have hh:∃ n r,g n=some r:=⟨n,r,hn⟩
  rw[dif_pos hh]
  have h2:=Classical.choose_spec (Classical.choose_spec hh)
  congr 1
  rcases Nat.le_total n (Classical.choose hh) with hle | hle
  ·have:=mono_le hm hle hn
   rw[h2] at this
   exact Option.some.inj this
  ·have:=mono_le hm hle h2
   rw[hn] at this
   exact (Option.some.inj this).symm
theorem bnd_eq {α β:Type} {x:Option α} {f:α→Option β} {r:β}:bnd x f=some r↔∃ a,x=some a∧f a=some r:=by
 cases x<;>simp[bnd]
def InlLe (i i':Nat→List AV→St→Option (AV × St)):Prop:=∀ g xs st r,i g xs st=some r→i' g xs st=some r
def CallLe (c c':Nat→List AV→Option AV):Prop:=∀ g xs r,c g xs=some r→c' g xs=some r
section
variable (P:Program) {c c':Nat→List AV→Option AV} {i i':Nat→List AV→St→Option (AV × St)} {bi:Bool}
theorem bnd_mono {α β:Type} {x y:Option α} {f:α→Option β} {r:β} (h:∀ a,x=some a→y=some a) (hx:bnd x f=some r):bnd y f=some r:=by
 cases hx':x with
 | none=>simp[hx',bnd] at hx
 | some a=>rw[h a hx'];rw[hx'] at hx;exact hx
theorem callFn_mono (h:CallLe c c') {g:Nat} {args:List AV} {st:St} {dst:Option Nat} {e:Eff} (he:callFn c g args st dst=some e):callFn c' g args st dst=some e:=by
 unfold callFn at *
 split at he
 ·rename_i hf
  rw[if_pos hf]
  exact bnd_mono (h g args) he
 ·rename_i hf
  rw[if_neg hf]
  split at he
  ·rename_i xs hxs
   exact bnd_mono (h g xs) he
  ·cases he
theorem callMv_mono (h:CallLe c c') {g:Nat} {args:List AV} {st:St} {dst:Option Nat} {e:Eff} (he:callMv c g args st dst=some e):callMv c' g args st dst=some e:=by
 unfold callMv at *
 split at he
 ·split at he
  ·rename_i e0 sz n cs hh
   split at he
   ·rename_i hc
    rename_i rest _
    simp only[hh,if_pos hc]
    cases hr:c g (.uniq e0 sz n cs :: rest) with
    | none=>simp[hr] at he
    | some r=>rw[h _ _ _ hr];rw[hr] at he;exact he
   ·cases he
  ·cases he
 ·split at he
  ·rename_i hc
   rw[if_pos hc]
   exact callFn_mono h he
  ·cases he
theorem callEat_mono (h:CallLe c c') {g:Nat} {args:List AV} {st:St} {dst:Option Nat} {e:Eff} (he:callEat c g args st dst=some e):callEat c' g args st dst=some e:=by
 unfold callEat at *
 split at he
 ·rename_i s k hk
  split at he
  ·rename_i hok
   rw[if_pos hok]
   split at he
   ·rename_i xs hxs
    exact bnd_mono (h g xs) he
   ·cases he
  ·cases he
 ·rename_i hk
  exact callFn_mono h he
theorem callVal_mono (h:CallLe c c') {f:Operand} {args:List AV} {st:St} {dst:Option Nat} {e:Eff} (he:callVal c f args st dst=some e):callVal c' f args st dst=some e:=by
 cases f
 case func g =>
  simp only[callVal] at *
  by_cases hm:Ext.mv g=true
  ·rw[if_pos hm] at *
   exact callMv_mono h he
  ·rw[if_neg hm] at *
   by_cases hm2:Ext.eat g=true
   ·rw[if_pos hm2] at *
    exact callEat_mono h he
   ·rw[if_neg hm2] at *
    exact callFn_mono h he
 all_goals
  simp only[callVal] at *
  split at he
  ·exact callFn_mono h he
  ·cases he
theorem opEff_mono (h:CallLe c c') {o:Oper} {st:St} {e:Eff} (he:opEff P c o st=some e):opEff P c' o st=some e:=by
 obtain⟨dst,op,type,pos,after,guard⟩:=o
 cases op
 case call cl =>
  simp only[opEff] at *
  unfold callEff at *
  split at he
  ·exact callVal_mono h he
  all_goals exact he
 case makeMap T r=>cases r<;>exact he
 all_goals exact he
theorem evOp_mono (h:CallLe c c') {ops:Array Oper} {o:Oper} {st s:St} (he:evOp P c ops o st=some s):evOp P c' ops o st=some s:=by
 unfold evOp at *
 split at he
 ·split at he
  ·rename_i b hg hb
   rw[if_pos hb]
   cases h1:opEff P c o st with
   | none=>simp[h1] at he
   | some e=>rw[opEff_mono P h h1];rw[h1] at he;exact he
  ·rename_i b hg hb
   rw[if_neg hb];exact he
 ·cases he
theorem evOpI_mono (h:CallLe c c') (hi:InlLe i i') {ops:Array Oper} {o:Oper} {st s:St} (he:evOpI P bi c i ops o st=some s):evOpI P bi c' i' ops o st=some s:=by
 unfold evOpI at he ⊢
 cases hg:(if bi=true then isInl o else none) with
 | none =>
   simp only[hg] at he ⊢
   exact evOp_mono P h he
 | some ga =>
   obtain⟨g,args⟩:=ga
   simp only[hg] at he ⊢
   cases hgv:gv ops st o.guard with
   | none=>simp[hgv] at he
   | some t =>
     simp only[hgv] at he ⊢
     cases t with
     | false=>exact he
     | true =>
       simp only[if_true] at he ⊢
       cases h1:i g (args.map st.ev) st with
       | none=>simp[h1] at he
       | some r=>rw[hi _ _ _ _ h1];rw[h1] at he;exact he
theorem evOpsI_mono (h:CallLe c c') (hi:InlLe i i') {ops:Array Oper}:∀ (l:List Oper) {st s:St},evOpsI P bi c i ops l st=some s→evOpsI P bi c' i' ops l st=some s
 | [],st,s,he=>he
 | o :: l,st,s,he=>by
   simp only[evOpsI] at *
   obtain⟨s1,h1,h2⟩:=bnd_eq.1 he
   exact bnd_eq.2 ⟨s1,evOpI_mono P h hi h1,evOpsI_mono h hi l h2⟩
theorem evC_mono (h:CallLe c c') (hi:InlLe i i'):∀ (n m:Nat),n≤m→∀ (x:Code) (st:St) (r:Ex × St),evC P bi c i n x st=some r→evC P bi c' i' m x st=some r
 | 0,_,_,_,_,_,he=>by simp[evC] at he
 | n+1,0,hle,_,_,_,_=>by omega
 | n+1,m+1,hle,x,st,r,he=>by
   have ih:=evC_mono h hi n m (by omega)
   cases x<;>simp only[evC] at he ⊢<;>(try exact he)
   case region id ops draw =>
    obtain⟨s1,h1,h2⟩:=bnd_eq.1 he
    exact bnd_eq.2 ⟨s1,evOpsI_mono P h hi _ h1,h2⟩
   case seq a b =>
    obtain⟨⟨e1,s1⟩,h1,h2⟩:=bnd_eq.1 he
    refine bnd_eq.2 ⟨(e1,s1),ih _ _ _ h1, ?_⟩
    cases e1 with
    | normal=>exact ih _ _ _ h2
    | _=>exact h2
   case cond cc a b =>
    split at he
    ·split at he
     ·rename_i hb;rw[if_pos hb];exact ih _ _ _ he
     ·rename_i hb;rw[if_neg hb];exact ih _ _ _ he
    ·cases he
   case block id b =>
    obtain⟨r1,h1,h2⟩:=bnd_eq.1 he
    exact bnd_eq.2 ⟨r1,ih _ _ _ h1,h2⟩
   case loop b =>
    obtain⟨⟨e1,s1⟩,h1,h2⟩:=bnd_eq.1 he
    refine bnd_eq.2 ⟨(e1,s1),ih _ _ _ h1, ?_⟩
    cases e1 with
    | normal=>exact ih _ _ _ h2
    | _=>exact h2
theorem evFI_mono:∀ n,CallLe (evF P n) (evF P (n+1))∧InlLe (evI P n) (evI P (n+1))
 | 0=>⟨fun g xs r h=>by
   rw[evF_zero] at h
   rw[evF_succ,h],fun g xs st r h=>by cases h⟩
 | n+1=>by
   obtain⟨ih,ii⟩:=evFI_mono n
   refine⟨fun g xs r h=>?_,fun g xs st r h=>?_⟩
   ·rw[evF_succ] at h ⊢
    cases he:Ext.ext g xs with
    | some r'=>rw[he] at h;exact h
    | none =>
      simp only[he] at h
      simp only
      cases hq:headUniq xs with
      | some u =>
        simp only[hq] at h
        simp only
        unfold runM at h ⊢
        split at h
        ·split at h
         ·rename_i hok
          rw[if_pos hok]
          split at h
          ·obtain⟨r1,h1,h2⟩:=bnd_eq.1 h
           exact bnd_eq.2 ⟨r1,evC_mono P ih ii n (n+1) (by omega) _ _ _ h1,h2⟩
          ·cases h
         ·cases h
        ·cases h
      | none =>
        simp only[hq] at h
        simp only
        by_cases hu:xs.any isUniq=true
        ·rw[if_pos hu] at h;cases h
        ·rw[if_neg hu] at h ⊢
         unfold runF at h ⊢
         split at h
         ·split at h
          ·rename_i hok
           rw[if_pos hok]
           split at h
           ·obtain⟨r1,h1,h2⟩:=bnd_eq.1 h
            exact bnd_eq.2 ⟨r1,evC_mono P ih ii n (n+1) (by omega) _ _ _ h1,h2⟩
           ·cases h
          ·cases h
         ·cases h
   ·rw[evI_succ] at h ⊢
    unfold runI at h ⊢
    split at h
    ·split at h
     ·rename_i hok
      rw[if_pos hok]
      split at h
      ·obtain⟨r1,h1,h2⟩:=bnd_eq.1 h
       exact bnd_eq.2 ⟨r1,evC_mono P ih ii n (n+1) (by omega) _ _ _ h1,h2⟩
      ·cases h
     ·cases h
    ·cases h
theorem evF_mono (n:Nat):CallLe (evF P n) (evF P (n+1)):=(evFI_mono P n).1
theorem evI_mono (n:Nat):InlLe (evI P n) (evI P (n+1)):=(evFI_mono P n).2
theorem evF_le {n m:Nat} (h:n≤m):CallLe (evF P n) (evF P m):=fun g xs r hr =>
 mono_le (g:=fun n=>evF P n g xs) (fun n r=>evF_mono P n g xs r) h hr
theorem evI_le {n m:Nat} (h:n≤m):InlLe (evI P n) (evI P m):=fun g xs st r hr =>
 mono_le (g:=fun n=>evI P n g xs st) (fun n r=>evI_mono P n g xs st r) h hr
noncomputable def callL (f:Nat) (xs:List AV):Option AV:=lim fun n=>evF P n f xs
noncomputable def inlL (f:Nat) (xs:List AV) (st:St):Option (AV × St):=lim fun n=>evI P n f xs st
noncomputable def evG (bi:Bool) (x:Code) (st:St):Option (Ex × St):=lim fun n=>evC P bi (evF P n) (evI P n) n x st
theorem callL_iff {f:Nat} {xs:List AV} {r:AV}:callL P f xs=some r↔∃ n,evF P n f xs=some r:=lim_iff (fun n r=>evF_mono P n f xs r) r
theorem inlL_iff {f:Nat} {xs:List AV} {st:St} {r:AV × St}:inlL P f xs st=some r↔∃ n,evI P n f xs st=some r:=lim_iff (fun n r=>evI_mono P n f xs st r) r
theorem evG_iff {x:Code} {st:St} {r:Ex × St}:evG P bi x st=some r↔∃ n m,evC P bi (evF P n) (evI P n) m x st=some r:=by
 unfold evG
 rw[lim_iff (fun n r=>evC_mono P (evF_mono P n) (evI_mono P n) n (n+1) (by omega) x st r)]
 constructor
 ·rintro⟨n,h⟩;exact⟨n,n,h⟩
 ·rintro⟨n,m,h⟩
  exact⟨max n m,evC_mono P (evF_le P (Nat.le_max_left n m)) (evI_le P (Nat.le_max_left n m)) m _ (Nat.le_max_right n m) x st r h⟩
theorem call_sound (hm:P.follows .mixedOrders=true) (hx:ExtOk P) {f:Nat} {xs:List AV} {r:AV} (h:callL P f xs=some r):SoundX P f xs r:=by
 obtain⟨n,hn⟩:=(callL_iff P).1 h
 exact (evF_ok hm hx n f xs r hn).2
theorem inlL_le (n:Nat):InlLe (evI P n) (inlL P):=fun g xs st r h=>(inlL_iff P).2 ⟨n,h⟩
theorem callL_le (n:Nat):CallLe (evF P n) (callL P):=fun g xs r h=>(callL_iff P).2 ⟨n,h⟩
theorem bnd_lim {β:Type} {g:Nat} {xs:List AV} {f:AV→Option β} {r:β} (h:bnd (callL P g xs) f=some r):∃ n,bnd (evF P n g xs) f=some r:=by
 obtain⟨a,h1,h2⟩:=bnd_eq.1 h
 obtain⟨n,hn⟩:=(callL_iff P).1 h1
 exact⟨n,bnd_eq.2 ⟨a,hn,h2⟩⟩
theorem callFn_lim {g:Nat} {args:List AV} {st:St} {dst:Option Nat} {e:Eff} (h:callFn (callL P) g args st dst=some e):∃ n,callFn (evF P n) g args st dst=some e:=by
 unfold callFn at h ⊢
 split at h
 ·rename_i hf
  obtain⟨n,hn⟩:=bnd_lim P h
  exact⟨n,by rw[if_pos hf];exact hn⟩
 ·rename_i hf
  split at h
  ·rename_i xs hxs
   obtain⟨n,hn⟩:=bnd_lim P h
   exact⟨n,by rw[if_neg hf];exact hn⟩
  ·cases h
theorem callMv_lim {g:Nat} {args:List AV} {st:St} {dst:Option Nat} {e:Eff} (h:callMv (callL P) g args st dst=some e):∃ n,callMv (evF P n) g args st dst=some e:=by
 unfold callMv at h ⊢
 split at h
 ·rename_i s k rest
  split at h
  ·rename_i e0 sz n cs hh
   split at h
   ·rename_i hc
    simp only[hh,if_pos hc]
    cases hr:callL P g (.uniq e0 sz n cs :: rest) with
    | none=>simp[hr] at h
    | some r =>
      obtain⟨m,hm⟩:=(callL_iff P).1 hr
      exact⟨m,by rw[hm];rw[hr] at h;exact h⟩
   ·cases h
  ·cases h
 ·split at h
  ·rename_i hc
   simp only[if_pos hc]
   exact callFn_lim P h
  ·cases h
theorem callEat_lim {g:Nat} {args:List AV} {st:St} {dst:Option Nat} {e:Eff} (h:callEat (callL P) g args st dst=some e):∃ n,callEat (evF P n) g args st dst=some e:=by
 unfold callEat at h ⊢
 split at h
 ·rename_i s k hk
  split at h
  ·rename_i hok
   simp only[if_pos hok]
   split at h
   ·rename_i xs hxs
    exact bnd_lim P h
   ·cases h
  ·cases h
 ·rename_i hk
  obtain⟨n,hn⟩:=callFn_lim P h
  exact⟨n,hn⟩
theorem opEff_lim {o:Oper} {st:St} {e:Eff} (h:opEff P (callL P) o st=some e):∃ n,opEff P (evF P n) o st=some e:=by
 obtain⟨dst,op,type,pos,after,guard⟩:=o
 cases op
 case call cl =>
  simp only[opEff] at *
  unfold callEff at *
  split at h
  ·unfold callVal at h ⊢
   split at h
   ·split at h
    ·rename_i hm
     obtain⟨n,hn⟩:=callMv_lim P h
     exact⟨n,by simp only[hm,if_true];exact hn⟩
    ·rename_i hm
     split at h
     ·rename_i hm2
      obtain⟨n,hn⟩:=callEat_lim P h
      exact⟨n,by rw[if_neg hm,if_pos hm2];exact hn⟩
     ·rename_i hm2
      obtain⟨n,hn⟩:=callFn_lim P h
      exact⟨n,by rw[if_neg hm,if_neg hm2];exact hn⟩
   ·split at h
    ·exact callFn_lim P h
    ·cases h
  all_goals exact⟨0,h⟩
 case makeMap T r=>cases r<;>exact⟨0,h⟩
 all_goals exact⟨0,h⟩
theorem evOp_lim {ops:Array Oper} {o:Oper} {st s:St} (h:evOp P (callL P) ops o st=some s):∃ n,evOp P (evF P n) ops o st=some s:=by
 unfold evOp at *
 split at h
 ·split at h
  ·rename_i b hg hb
   cases h1:opEff P (callL P) o st with
   | none=>simp[h1] at h
   | some e =>
     obtain⟨n,hn⟩:=opEff_lim P h1
     refine⟨n, ?_⟩
     rw[if_pos hb,hn]
     rw[h1] at h
     exact h
  ·rename_i b hg hb
   exact⟨0,by rw[if_neg hb];exact h⟩
 ·cases h
theorem evOpI_lim {ops:Array Oper} {o:Oper} {st s:St} (h:evOpI P bi (callL P) (inlL P) ops o st=some s):∃ n,evOpI P bi (evF P n) (evI P n) ops o st=some s:=by
 unfold evOpI at h ⊢
 cases hg:(if bi=true then isInl o else none) with
 | none =>
   simp only[hg] at h ⊢
   exact evOp_lim P h
 | some ga =>
   obtain⟨g,args⟩:=ga
   simp only[hg] at h ⊢
   cases hgv:gv ops st o.guard with
   | none=>simp[hgv] at h
   | some t =>
     simp only[hgv] at h ⊢
     cases t with
     | false=>exact⟨0,h⟩
     | true =>
       simp only[if_true] at h ⊢
       cases h1:inlL P g (args.map st.ev) st with
       | none=>simp[h1] at h
       | some r =>
         obtain⟨n,hn⟩:=(inlL_iff P).1 h1
         refine⟨n, ?_⟩
         rw[h1] at h
         rw[hn]
         exact h
theorem evOpsI_lim {ops:Array Oper}:∀ (l:List Oper) {st s:St},evOpsI P bi (callL P) (inlL P) ops l st=some s→∃ n,evOpsI P bi (evF P n) (evI P n) ops l st=some s
 | [],st,s,h=>⟨0,h⟩
 | o :: l,st,s,h=>by
   simp only[evOpsI] at *
   obtain⟨s1,h1,h2⟩:=bnd_eq.1 h
   obtain⟨n,hn⟩:=evOpI_lim P h1
   obtain⟨m,hm⟩:=evOpsI_lim l h2
   exact⟨max n m,bnd_eq.2 ⟨s1,evOpI_mono P (evF_le P (Nat.le_max_left n m)) (evI_le P (Nat.le_max_left n m)) hn,evOpsI_mono P (evF_le P (Nat.le_max_right n m)) (evI_le P (Nat.le_max_right n m)) l hm⟩⟩
theorem evOpsI_false {cc:Nat→List AV→Option AV} {ii:Nat→List AV→St→Option (AV × St)} {ops:Array Oper}:∀ (l:List Oper) (st:St),evOpsI P false cc ii ops l st=evOps P cc ops l st
 | [],st=>rfl
 | o :: l,st=>by
   have e:∀ s,evOpI P false cc ii ops o s=evOp P cc ops o s:=fun s=>rfl
   unfold evOpsI evOps
   rw[e]
   congr 1
   funext s
   exact evOpsI_false l s
theorem evG_skip (st:St):evG P bi .skip st=some (.normal,st):=(evG_iff P).2 ⟨0,1,rfl⟩
theorem evG_exit (id:Nat) (st:St):evG P bi (.exit id) st=some (.exit id,st):=(evG_iff P).2 ⟨0,1,rfl⟩
theorem evG_ret (st:St):evG P bi .ret st=some (.ret,st):=(evG_iff P).2 ⟨0,1,rfl⟩
theorem evG_region (id:Nat) (ops:Array Oper) (d:Bool) (st:St):evG P bi (.region id ops d) st=bnd (evOpsI P bi (callL P) (inlL P) ops ops.toList st) fun s=>if bi=true∧¬ SwapsOk ops s (Ext.dyn id ops.size (firstDst ops)) then none else some (.normal,s):=by
 apply Option.ext
 intro r
 rw[evG_iff,bnd_eq]
 constructor
 ·rintro⟨n,m,h⟩
  cases m with
  | zero=>simp[evC] at h
  | succ m =>
    simp only[evC] at h
    obtain⟨s1,h1,h2⟩:=bnd_eq.1 h
    exact⟨s1,evOpsI_mono P (callL_le P n) (inlL_le P n) _ h1,h2⟩
 ·rintro⟨s1,h1,h2⟩
  obtain⟨n,hn⟩:=evOpsI_lim P _ h1
  exact⟨n,1,by simp only[evC];exact bnd_eq.2 ⟨s1,hn,h2⟩⟩
def thenL (r:Ex × St) (k:St→Option (Ex × St)):Option (Ex × St) :=
 match r.1 with
 | .normal=>k r.2
 | e=>some (e,r.2)
theorem evG_seq (a b:Code) (st:St):evG P bi (.seq a b) st=bnd (evG P bi a st) fun r=>thenL r (evG P bi b):=by
 apply Option.ext
 intro r
 rw[evG_iff,bnd_eq]
 constructor
 ·rintro⟨n,m,h⟩
  cases m with
  | zero=>simp[evC] at h
  | succ m =>
    simp only[evC] at h
    obtain⟨⟨e1,s1⟩,h1,h2⟩:=bnd_eq.1 h
    refine⟨(e1,s1),(evG_iff P).2 ⟨n,m,h1⟩, ?_⟩
    cases e1 with
    | normal=>exact (evG_iff P).2 ⟨n,m,h2⟩
    | _=>exact h2
 ·rintro⟨⟨e1,s1⟩,h1,h2⟩
  obtain⟨n1,m1,h1⟩:=(evG_iff P).1 h1
  cases e1 with
  | normal =>
    obtain⟨n2,m2,h2⟩:=(evG_iff P).1 h2
    refine⟨max n1 n2,max m1 m2+1, ?_⟩
    simp only[evC]
    exact bnd_eq.2 ⟨(.normal,s1),evC_mono P (evF_le P (Nat.le_max_left _ _)) (evI_le P (Nat.le_max_left _ _)) _ _ (Nat.le_max_left _ _) _ _ _ h1,evC_mono P (evF_le P (Nat.le_max_right _ _)) (evI_le P (Nat.le_max_right _ _)) _ _ (Nat.le_max_right _ _) _ _ _ h2⟩
  | exit id=>exact⟨n1,m1+1,by simp only[evC];exact bnd_eq.2 ⟨(.exit id,s1),h1,h2⟩⟩
  | ret=>exact⟨n1,m1+1,by simp only[evC];exact bnd_eq.2 ⟨(.ret,s1),h1,h2⟩⟩
theorem evG_loop (b:Code) (st:St):evG P bi (.loop b) st=bnd (evG P bi b st) fun r=>thenL r (evG P bi (.loop b)):=by
 apply Option.ext
 intro r
 rw[evG_iff,bnd_eq]
 constructor
 ·rintro⟨n,m,h⟩
  cases m with
  | zero=>simp[evC] at h
  | succ m =>
    simp only[evC] at h
    obtain⟨⟨e1,s1⟩,h1,h2⟩:=bnd_eq.1 h
    refine⟨(e1,s1),(evG_iff P).2 ⟨n,m,h1⟩, ?_⟩
    cases e1 with
    | normal=>exact (evG_iff P).2 ⟨n,m,h2⟩
    | _=>exact h2
 ·rintro⟨⟨e1,s1⟩,h1,h2⟩
  obtain⟨n1,m1,h1⟩:=(evG_iff P).1 h1
  cases e1 with
  | normal =>
    obtain⟨n2,m2,h2⟩:=(evG_iff P).1 h2
    refine⟨max n1 n2,max m1 m2+1, ?_⟩
    simp only[evC]
    exact bnd_eq.2 ⟨(.normal,s1),evC_mono P (evF_le P (Nat.le_max_left _ _)) (evI_le P (Nat.le_max_left _ _)) _ _ (Nat.le_max_left _ _) _ _ _ h1,evC_mono P (evF_le P (Nat.le_max_right _ _)) (evI_le P (Nat.le_max_right _ _)) _ _ (Nat.le_max_right _ _) _ _ _ h2⟩
  | exit id=>exact⟨n1,m1+1,by simp only[evC];exact bnd_eq.2 ⟨(.exit id,s1),h1,h2⟩⟩
  | ret=>exact⟨n1,m1+1,by simp only[evC];exact bnd_eq.2 ⟨(.ret,s1),h1,h2⟩⟩
theorem evG_block (id:Nat) (b:Code) (st:St):evG P bi (.block id b) st=bnd (evG P bi b st) fun r=>some (r.1.inBlock id,r.2):=by
 apply Option.ext
 intro r
 rw[evG_iff,bnd_eq]
 constructor
 ·rintro⟨n,m,h⟩
  cases m with
  | zero=>simp[evC] at h
  | succ m =>
    simp only[evC] at h
    obtain⟨r1,h1,h2⟩:=bnd_eq.1 h
    exact⟨r1,(evG_iff P).2 ⟨n,m,h1⟩,h2⟩
 ·rintro⟨r1,h1,h2⟩
  obtain⟨n1,m1,h1⟩:=(evG_iff P).1 h1
  exact⟨n1,m1+1,by simp only[evC];exact bnd_eq.2 ⟨r1,h1,h2⟩⟩
theorem evG_cond (c:Operand) (a b:Code) (st:St) {t:Bool} (hc:st.ev c=.v (.bool t)):evG P bi (.cond c a b) st=if t=true then evG P bi a st else evG P bi b st:=by
 apply Option.ext
 intro r
 rw[evG_iff]
 constructor
 ·rintro⟨n,m,h⟩
  cases m with
  | zero=>simp[evC] at h
  | succ m =>
    simp only[evC,hc] at h
    split at h
    ·rename_i hb;rw[if_pos hb];exact (evG_iff P).2 ⟨n,m,h⟩
    ·rename_i hb;rw[if_neg hb];exact (evG_iff P).2 ⟨n,m,h⟩
 ·intro h
  split at h
  ·rename_i hb
   obtain⟨n,m,h⟩:=(evG_iff P).1 h
   exact⟨n,m+1,by simp only[evC,hc];rw[if_pos hb];exact h⟩
  ·rename_i hb
   obtain⟨n,m,h⟩:=(evG_iff P).1 h
   exact⟨n,m+1,by simp only[evC,hc];rw[if_neg hb];exact h⟩
noncomputable def evL (x:Code) (st:St):Option (Ex × St):=evG P false x st
theorem evL_iff {x:Code} {st:St} {r:Ex × St}:evL P x st=some r↔∃ n m,evC P false (evF P n) (evI P n) m x st=some r:=evG_iff P
theorem evL_skip (st:St):evL P .skip st=some (.normal,st):=evG_skip P st
theorem evL_exit (id:Nat) (st:St):evL P (.exit id) st=some (.exit id,st):=evG_exit P id st
theorem evL_ret (st:St):evL P .ret st=some (.ret,st):=evG_ret P st
theorem evL_region (id:Nat) (ops:Array Oper) (d:Bool) (st:St):evL P (.region id ops d) st=bnd (evOps P (callL P) ops ops.toList st) fun s=>some (.normal,s):=by
 rw[← evOpsI_false P (ii:=inlL P)]
 have h:=evG_region P (bi:=false) id ops d st
 simp only[Bool.false_eq_true,false_and,if_false] at h
 exact h
theorem evL_seq (a b:Code) (st:St):evL P (.seq a b) st=bnd (evL P a st) fun r=>thenL r (evL P b):=evG_seq P a b st
theorem evL_loop (b:Code) (st:St):evL P (.loop b) st=bnd (evL P b st) fun r=>thenL r (evL P (.loop b)):=evG_loop P b st
theorem evL_block (id:Nat) (b:Code) (st:St):evL P (.block id b) st=bnd (evL P b st) fun r=>some (r.1.inBlock id,r.2):=evG_block P id b st
theorem evL_cond (c:Operand) (a b:Code) (st:St) {t:Bool} (hc:st.ev c=.v (.bool t)):evL P (.cond c a b) st=if t=true then evL P a st else evL P b st:=evG_cond P c a b st hc
noncomputable def endL (f:Nat) (fn:Func) (r:Ex × St):Option AV :=
 match r.1 with
 | .exit _=>none
 | _=>finishF P f fn r.2
def fnOkN (fn:Func):Bool:=fnOk fn && (match fn.body with | some c=>!codeInl c | none=>true)
theorem headUniq_none {xs:List AV} (h:xs.any isUniq=false):headUniq xs=none:=by
 cases xs with
 | nil=>rfl
 | cons x xs =>
   cases x<;>first | rfl | simp[isUniq] at h
noncomputable def endM (fn:Func) (r:Ex × St):Option AV :=
 match r.1 with
 | .exit _=>none
 | _=>finishM P fn r.2
theorem callM_eq {f:Nat} {fn:Func} {c:Code} (hf:P.funcs[f]? = some fn) (hb:fn.body=some c) (hok:fnOk fn=true) (e sz m:Nat) (cs xs:List AV) (hx:Ext.ext f (.uniq e sz m cs :: xs)=none) :
 callL P f (.uniq e sz m cs :: xs)=bnd (evG P (codeInl c) c (St.initM e sz m cs xs)) (endM P fn):=by
 apply Option.ext
 intro r
 rw[callL_iff,bnd_eq]
 have hq:headUniq (.uniq e sz m cs :: xs)=some (e,sz,m,cs,xs):=rfl
 constructor
 ·rintro⟨n,h⟩
  cases n with
  | zero=>rw[evF_zero,hx] at h;cases h
  | succ n =>
    simp only[evF_succ,hx,hq,runM,hf,hok,hb,if_true] at h
    obtain⟨r1,h1,h2⟩:=bnd_eq.1 h
    exact⟨r1,(evG_iff P).2 ⟨n,n,h1⟩,h2⟩
 ·rintro⟨r1,h1,h2⟩
  obtain⟨n,m',h1⟩:=(evG_iff P).1 h1
  refine⟨max n m'+1, ?_⟩
  simp only[evF_succ,hx,hq,runM,hf,hok,hb,if_true]
  exact bnd_eq.2 ⟨r1,evC_mono P (evF_le P (Nat.le_max_left _ _)) (evI_le P (Nat.le_max_left _ _)) _ _ (Nat.le_max_right _ _) _ _ _ h1,h2⟩
theorem callG_eq {f:Nat} {fn:Func} {c:Code} (hf:P.funcs[f]? = some fn) (hb:fn.body=some c) (hok:fnOk fn=true) (xs:List AV) (hx:Ext.ext f xs=none) (hu:xs.any isUniq=false):callL P f xs=bnd (evG P (codeInl c) c (St.init xs)) (endL P f fn):=by
 apply Option.ext
 intro r
 rw[callL_iff,bnd_eq]
 constructor
 ·rintro⟨n,h⟩
  cases n with
  | zero=>rw[evF_zero,hx] at h;cases h
  | succ n =>
    simp only[evF_succ,hx,headUniq_none hu,hu,runF,hf,hok,hb,if_true] at h
    obtain⟨r1,h1,h2⟩:=bnd_eq.1 h
    exact⟨r1,(evG_iff P).2 ⟨n,n,h1⟩,h2⟩
 ·rintro⟨r1,h1,h2⟩
  obtain⟨n,m,h1⟩:=(evG_iff P).1 h1
  refine⟨max n m+1, ?_⟩
  simp only[evF_succ,hx,headUniq_none hu,hu,runF,hf,hok,hb,if_true]
  exact bnd_eq.2 ⟨r1,evC_mono P (evF_le P (Nat.le_max_left _ _)) (evI_le P (Nat.le_max_left _ _)) _ _ (Nat.le_max_right _ _) _ _ _ h1,h2⟩
theorem callL_eq {f:Nat} {fn:Func} {c:Code} (hf:P.funcs[f]? = some fn) (hb:fn.body=some c) (hok:fnOkN fn=true) (xs:List AV) (hx:Ext.ext f xs=none) (hu:xs.any isUniq=false):callL P f xs=bnd (evL P c (St.init xs)) (endL P f fn):=by
 simp only[fnOkN,hb,Bool.and_eq_true,Bool.not_eq_true'] at hok
 rw[callG_eq P hf hb hok.1 xs hx hu,hok.2]
 rfl
noncomputable def endI (fn:Func) (r:Ex × St):Option (AV × St) :=
 match r.1 with
 | .exit _=>none
 | _=>(finishI P fn r.2).map fun x=>(x,r.2)
theorem inlL_eq {f:Nat} {fn:Func} {c:Code} (hf:P.funcs[f]? = some fn) (hb:fn.body=some c) (hok:fnOkB true fn=true) (xs:List AV) (st:St):inlL P f xs st=bnd (evG P true c ((St.init xs).back st)) (endI P fn):=by
 apply Option.ext
 intro r
 rw[inlL_iff,bnd_eq]
 constructor
 ·rintro⟨n,h⟩
  cases n with
  | zero=>rw[evI_zero] at h;cases h
  | succ n =>
    simp only[evI_succ,runI,hf,hok,hb,if_true] at h
    obtain⟨r1,h1,h2⟩:=bnd_eq.1 h
    exact⟨r1,(evG_iff P).2 ⟨n,n,h1⟩,h2⟩
 ·rintro⟨r1,h1,h2⟩
  obtain⟨n,m,h1⟩:=(evG_iff P).1 h1
  refine⟨max n m+1, ?_⟩
  simp only[evI_succ,runI,hf,hok,hb,if_true]
  exact bnd_eq.2 ⟨r1,evC_mono P (evF_le P (Nat.le_max_left _ _)) (evI_le P (Nat.le_max_left _ _)) _ _ (Nat.le_max_right _ _) _ _ _ h1,h2⟩
end
end Go.Ab
end
section
namespace Go.Ab
open Classical
variable [Ext]
def rd (cs:List AV) (o k:Nat):List AV:=(cs.drop o).take k
def onB {α:Type} (x:AV) (k:Bool→Option α):Option α :=
 match x with
 | .v (.bool b)=>k b
 | _=>none
section
variable (P:Program)
def ldAt (T:Nat) (cs:List AV) (o:Nat):Option AV :=
 match ldInfo P T with
 | some (true,k)=>if 0 < k∧k≤cs.length - o then some (.agg (rd cs o k)) else none
 | some (false,_)=>cs[o]?
 | none=>none
def loadA (st:St) (T:Nat) (x:AV):Option AV :=
 match x with
 | .ip cs o=>ldAt P T cs o
 | .ptr s g o =>
   match st.heap s g with
   | some (.cells cs)=>ldAt P T cs o
   | some (.row _ _ _ cs)=>ldAt P T cs o
   | _=>none
 | _=>none
theorem ldAt_eq (T:Nat) (cs:List AV) (o:Nat):loadVal P T (cs.drop o)=ldAt P T cs o:=by
 unfold loadVal ldAt
 cases ldInfo P T with
 | none=>rfl
 | some bk =>
   obtain⟨b,k⟩:=bk
   cases b
   ·simp
   ·simp[rd]
theorem loadA_eq (st:St) (T:Nat) (x:AV):bnd (readAt st x) (loadVal P T)=loadA P st T x:=by
 cases x<;>simp only[readAt,bnd,loadA,ldAt_eq]
 split<;>rename_i h
 ·split at h
  ·rename_i h';cases h;rw[h'];exact ldAt_eq P T _ _
  ·rename_i h';cases h;rw[h'];exact ldAt_eq P T _ _
  ·cases h
 ·split at h
  ·cases h
  ·cases h
  ·rename_i h1 h2
   split<;>first | rfl | (rename_i h';first | exact absurd h' (h1 _) | exact absurd h' (h2 _ _ _ _))
def storeSt (st:St) (T:Nat) (a x:AV):Option St:=(storeA P st T a x).map fun u=>st.setH u.1 u.2.1 (some u.2.2)
variable {P}
variable {call:Nat→List AV→Option AV} {ops:Array Oper} {st:St} {d:Option Nat} {T:Nat} {pos:String} {aft:Array Edge}
@[congr] theorem bnd_congr {α β:Type} {x y:Option α} {f:α→Option β} (h:x=y):bnd x f=bnd y f:=by rw[h]
@[congr] theorem onB_congr {α:Type} {x y:AV} {k:Bool→Option α} (h:x=y):onB x k=onB y k:=by rw[h]
@[congr] theorem evOps_congr {l:List Oper} {s t:St} (h:s=t):evOps P call ops l s=evOps P call ops l t:=by rw[h]
@[congr] theorem evOp_congr {o:Oper} {s t:St} (h:s=t):evOp P call ops o s=evOp P call ops o t:=by rw[h]
@[congr] theorem evL_congr {c:Code} {s t:St} (h:s=t):evL P c s=evL P c t:=by rw[h]
theorem bnd_some {α β:Type} (a:α) (f:α→Option β):bnd (some a) f=f a:=rfl
theorem bnd_none {α β:Type} (f:α→Option β):bnd none f=none:=rfl
theorem onB_bool {α:Type} (b:Bool) (k:Bool→Option α):onB (.v (.bool b)) k=k b:=rfl
theorem evOps_nil:evOps P call ops [] st=some st:=rfl
theorem evOps_cons (o:Oper) (l:List Oper):evOps P call ops (o :: l) st=bnd (evOp P call ops o st) (evOps P call ops l):=rfl
theorem evOp_none (op:Op):evOp P call ops ⟨d,op,T,pos,aft,none⟩ st=(opEff P call ⟨d,op,T,pos,aft,none⟩ st).map fun e=>e.apply st:=rfl
theorem ev_move (x:Operand):evOp P call ops ⟨d,.move x,T,pos,aft,none⟩ st=some (st.put d (st.ev x)):=rfl
theorem ev_assign (x:Operand):evOp P call ops ⟨d,.assign x,T,pos,aft,none⟩ st=some (st.put d (st.ev x)):=rfl
theorem ev_pick (c a b:Operand):evOp P call ops ⟨d,.pick c a b,T,pos,aft,none⟩ st=onB (st.ev c) fun t=>some (st.put d (if t=true then st.ev a else st.ev b)):=by
 rw[evOp_none]
 simp only[opEff,opVal]
 cases st.ev c<;>try rfl
 rename_i x
 cases x<;>rfl
theorem ev_binOp (op:BinOp) (S:Nat) (x y:Operand) (yT:Nat):evOp P call ops ⟨d,.binOp op S x y yT,T,pos,aft,none⟩ st=bnd (binA P op S (st.ev x) (st.ev y)) fun v=>some (st.put d v):=by
 rw[evOp_none]
 simp only[opEff,opVal]
 cases binA P op S (st.ev x) (st.ev y)<;>rfl
theorem ev_unOp (op:UnOp) (S:Nat) (x:Operand):evOp P call ops ⟨d,.unOp op S x,T,pos,aft,none⟩ st=bnd (unA op (st.ev x)) fun v=>some (st.put d v):=by
 rw[evOp_none]
 simp only[opEff,opVal]
 cases unA op (st.ev x)<;>rfl
def convA (P:Program) (src dst:Nat) (x:AV):Option AV :=
 match x,intKind P dst,intKind P src with
 | .v (.int _ n),some k,some _=>some (.v (.int k (k.wrap n)))
 | _,_,_=>none
theorem ev_convert (src dst:Nat) (x:Operand):evOp P call ops ⟨d,.convert src dst x,T,pos,aft,none⟩ st=bnd (convA P src dst (st.ev x)) fun v=>some (st.put d v):=by
 rw[evOp_none]
 simp only[opEff,opVal]
 show Option.map _ (Option.map _ (convA P src dst (st.ev x)))=_
 cases convA P src dst (st.ev x)<;>rfl
theorem ev_field (S:Nat) (x:Operand) (f:Nat):evOp P call ops ⟨d,.field S x f,T,pos,aft,none⟩ st=bnd (fieldA P S f (st.ev x)) fun v=>some (st.put d v):=by
 rw[evOp_none]
 simp only[opEff,opVal]
 cases fieldA P S f (st.ev x)<;>rfl
theorem fieldA_agg {S f off k:Nat} {cs:List AV} (h:fieldInfo P S f=some (off,true,k)) (hl:off+k≤cs.length):fieldA P S f (.agg cs)=some (.agg (rd cs off k)):=by
 simp only[fieldA,h,if_pos hl]
 rfl
theorem fieldA_one {S f off k:Nat} {cs:List AV} (h:fieldInfo P S f=some (off,false,k)):fieldA P S f (.agg cs)=cs[off]?:=by
 simp only[fieldA,h]
theorem ev_fieldAddr (S:Nat) (x:Operand) (f:Nat):evOp P call ops ⟨d,.fieldAddr S x f,T,pos,aft,none⟩ st=bnd (fieldOff P S f) fun k=>bnd (addOff (st.ev x) k) fun v=>some (st.put d v):=by
 rw[evOp_none]
 simp only[opEff,opVal]
 cases fieldOff P S f with
 | none=>rfl
 | some k =>
   simp only[bnd]
   cases addOff (st.ev x) k<;>rfl
theorem ev_indexAddr (S:Nat) (x i:Operand):evOp P call ops ⟨d,.indexAddr S x i,T,pos,aft,none⟩ st=bnd (indexAddrA P st S (st.ev x) (st.ev i)) fun v=>some (st.put d v):=by
 rw[evOp_none]
 simp only[opEff,opVal]
 cases indexAddrA P st S (st.ev x) (st.ev i)<;>rfl
theorem ev_load (S:Nat) (x:Operand):evOp P call ops ⟨d,.load S x,T,pos,aft,none⟩ st=bnd (loadA P st S (st.ev x)) fun v=>some (st.put d v):=by
 rw[evOp_none]
 simp only[opEff,opVal,loadA_eq]
 cases loadA P st S (st.ev x)<;>rfl
def extA (x:AV) (i:Nat):Option AV :=
 match x with
 | .tup vs=>vs[i]?
 | _=>none
theorem ev_extract (t:Operand) (i:Nat):evOp P call ops ⟨d,.extract t i,T,pos,aft,none⟩ st=bnd (extA (st.ev t) i) fun v=>some (st.put d v):=by
 rw[evOp_none]
 simp only[opEff,opVal]
 show Option.map _ (Option.map _ (extA (st.ev t) i))=_
 cases extA (st.ev t) i<;>rfl
theorem ev_build (S:Nat) (parts:Array (Nat × Operand)):evOp P call ops ⟨d,.build S parts,T,pos,aft,none⟩ st=bnd (buildA P st S parts.toList) fun v=>some (st.put d v):=by
 rw[evOp_none]
 simp only[opEff,opVal]
 cases buildA P st S parts.toList<;>rfl
theorem ev_slice (S:Nat) (x:Operand) (lo hi:Option Operand):evOp P call ops ⟨d,.slice S x lo hi none,T,pos,aft,none⟩ st=bnd (sliceA P st S (st.ev x) lo hi) fun v=>some (st.put d v):=by
 rw[evOp_none]
 simp only[opEff,opVal]
 cases sliceA P st S (st.ev x) lo hi<;>rfl
theorem ev_alloc (S d:Nat):evOp P call ops ⟨some d,.alloc S,T,pos,aft,none⟩ st=bnd (zeroL P S) fun z=>some ((st.new d (.cells (z.map .v))).put (some d) (.ptr d (st.cnt d) 0)):=by
 rw[evOp_none]
 simp only[opEff,bnd]
 cases zeroL P S with
 | none=>rfl
 | some z=>simp only[Option.map_some,apply_one]
theorem ev_box (S d:Nat) (x:Operand):evOp P call ops ⟨some d,.box S x,T,pos,aft,none⟩ st=if (st.ev x).stor=true then some ((st.new d (.cells (st.ev x).cells)).put (some d) (.ptr d (st.cnt d) 0)) else none:=by
 rw[evOp_none]
 simp only[opEff,bnd]
 split
 ·simp only[Option.map_some,apply_one]
 ·rfl
theorem ev_store (S:Nat) (x y:Operand):evOp P call ops ⟨d,.store S x y,T,pos,aft,none⟩ st=bnd (storeSt P st S (st.ev x) (st.ev y)) fun s=>some (s.put d (.v undef)):=by
 rw[evOp_none]
 simp only[opEff,storeSt]
 cases storeA P st S (st.ev x) (st.ev y)<;>rfl
theorem ev_call (g:Nat) (args:Array Operand) (ats:Array Nat) (h:Ext.mv g=false) (h2:Ext.eat g=false):evOp P call ops ⟨d,.call ⟨.value (.func g),args,ats⟩,T,pos,aft,none⟩ st=bnd (callFn call g (args.toList.map st.ev) st d) fun e=>some (e.apply st):=by
 rw[evOp_none]
 simp only[opEff,callEff,callVal,h,h2,Bool.false_eq_true,if_false]
 cases callFn call g (args.toList.map st.ev) st d<;>rfl
theorem ev_callM (g:Nat) (args:Array Operand) (ats:Array Nat) (h:Ext.mv g=true):evOp P call ops ⟨d,.call ⟨.value (.func g),args,ats⟩,T,pos,aft,none⟩ st=bnd (callMv call g (args.toList.map st.ev) st d) fun e=>some (e.apply st):=by
 rw[evOp_none]
 simp only[opEff,callEff,callVal,h,if_true]
 cases callMv call g (args.toList.map st.ev) st d<;>rfl
theorem ev_callEat (g:Nat) (args:Array Operand) (ats:Array Nat) (h:Ext.mv g=false) (h2:Ext.eat g=true):evOp P call ops ⟨d,.call ⟨.value (.func g),args,ats⟩,T,pos,aft,none⟩ st=bnd (callEat call g (args.toList.map st.ev) st d) fun e=>some (e.apply st):=by
 rw[evOp_none]
 simp only[opEff,callEff,callVal,h,h2,Bool.false_eq_true,if_false,if_true]
 cases callEat call g (args.toList.map st.ev) st d<;>rfl
theorem ev_callC (t:Nat) (args:Array Operand) (ats:Array Nat) {g:Nat} {caps:List AV} (h:st.env t=.clo g caps):evOp P call ops ⟨d,.call ⟨.value (.tmp t),args,ats⟩,T,pos,aft,none⟩ st=bnd (callFn call g (args.toList.map st.ev ++ caps) st d) fun e=>some (e.apply st):=by
 rw[evOp_none]
 simp only[opEff,callEff,callVal,St.ev,h,asFn]
 show Option.map _ (callFn call g (args.toList.map st.ev ++ caps) st d)=bnd (callFn call g (args.toList.map st.ev ++ caps) st d) _
 cases callFn call g (args.toList.map st.ev ++ caps) st d<;>rfl
theorem ev_slice3 (S:Nat) (x:Operand) (lo:Option Operand) (hi mx:Operand):evOp P call ops ⟨d,.slice S x lo (some hi) (some mx),T,pos,aft,none⟩ st=bnd (sliceA3 P st S (st.ev x) lo hi mx) fun v=>some (st.put d v):=by
 rw[evOp_none]
 simp only[opEff,opVal]
 cases sliceA3 P st S (st.ev x) lo hi mx<;>rfl
theorem ev_lookup (S:Nat) (x i:Operand) (ok:Bool):evOp P call ops ⟨d,.lookup S x i ok,T,pos,aft,none⟩ st=bnd (lookA P st S (st.ev x) (st.ev i) ok) fun v=>some (st.put d v):=by
 rw[evOp_none]
 simp only[opEff,opVal]
 cases lookA P st S (st.ev x) (st.ev i) ok<;>rfl
theorem ev_makeMap (S d:Nat):evOp P call ops ⟨some d,.makeMap S none,T,pos,aft,none⟩ st=some ((st.new d (.map [])).put (some d) (.mp d (st.cnt d))):=by
 rw[evOp_none]
 simp only[opEff,bnd,Option.map_some,apply_one]
theorem ev_mapUpdate (S:Nat) (m x y:Operand):evOp P call ops ⟨d,.mapUpdate S m x y,T,pos,aft,none⟩ st=bnd (mapSetA P st S (st.ev m) (st.ev x) (st.ev y)) fun u=>some ((st.setH u.1 u.2.1 (some u.2.2)).put d (.v undef)):=by
 rw[evOp_none]
 simp only[opEff]
 cases mapSetA P st S (st.ev m) (st.ev x) (st.ev y)<;>rfl
theorem ev_makeFunc (g:Nat) (caps:Array Operand):evOp P call ops ⟨d,.makeFunc (.func g) #[] caps,T,pos,aft,none⟩ st=some (st.put d (.clo g (caps.toList.map st.ev))):=by
 rw[evOp_none]
 simp only[opEff,opVal,if_true,Option.map_some]
 rfl
theorem ev_buildSlice (S n d:Nat) (parts:Array (Nat × Operand)):evOp P call ops ⟨some d,.buildSlice S n parts,T,pos,aft,none⟩ st=bnd (slInfo P S) fun t=>bnd (zeroL P t.1) fun z =>
 if (0 < n∨parts=#[])∧n * t.2.1≤2 ^ 24∧(parts.toList.all fun p=>(st.ev p.2).stor)=true then
  bnd (fillA (fun i=>some (i * t.2.1,t.2.1)) ((List.range n).flatMap fun _=>z.map .v) (parts.toList.map fun p=>(p.1,st.ev p.2))) fun cs =>
   some ((st.new d (.row t.1 t.2.1 n cs)).put (some d) (.own d (st.cnt d)))
 else none:=by
 rw[evOp_none]
 simp only[opEff,bnd]
 cases slInfo P S with
 | none=>rfl
 | some t =>
   simp only
   cases zeroL P t.1 with
   | none=>rfl
   | some z =>
     simp only
     split
     ·cases fillA (fun i=>some (i * t.2.1,t.2.1)) ((List.range n).flatMap fun _=>z.map .v) (parts.toList.map fun p=>(p.1,st.ev p.2)) with
      | none=>rfl
      | some cs=>simp only[Option.map_some,apply_one]
     ·rfl
theorem ev_makeSlice (S d:Nat) (l c:Operand) {n:Nat} (hl:st.ev l=.v (.int .i64 n)) (hc:st.ev c=.v (.int .i64 n)):evOp P call ops ⟨some d,.makeSlice S l c,T,pos,aft,none⟩ st=bnd (slInfo P S) fun t=>bnd (zeroL P t.1) fun z =>
 if (n:Int) * t.2.2≤140737488355328∧(n:Int)≤maxLen then some ((st.new d (.row t.1 t.2.1 n ((List.range n).flatMap fun _=>z.map .v))).put (some d) (.own d (st.cnt d))) else none:=by
 rw[evOp_none]
 simp only[opEff,bnd,hl,hc]
 cases slInfo P S with
 | none=>rfl
 | some t =>
   simp only
   cases zeroL P t.1 with
   | none=>rfl
   | some z =>
     simp only[Int.toNat_natCast,Int.natCast_nonneg,true_and]
     split
     ·simp only[Option.map_some,apply_one]
     ·rfl
theorem ev_len (x:Operand) (S:Nat) (ats:Array Nat) (h:ats=#[S]):evOp P call ops ⟨d,.call ⟨.builtin .len,#[x],ats⟩,T,pos,aft,none⟩ st=bnd (slInfo P S) fun _=>bnd (sliceView st (st.ev x)) fun nc=>some (st.put d (.v (.int .i64 nc.1))):=by
 subst h
 rw[evOp_none]
 simp only[opEff,callEff]
 cases slInfo P S with
 | none=>rfl
 | some t=>cases sliceView st (st.ev x) with
   | none=>rfl
   | some nc=>cases nc;rfl
theorem ev_lenT (x:Operand) (S:Nat):evOp P call ops ⟨d,.call ⟨.builtin .len,#[x],#[S]⟩,T,pos,aft,none⟩ st=bnd (slInfo P S) fun _=>bnd (sliceView st (st.ev x)) fun nc=>some (st.put d (.v (.int .i64 nc.1))):=ev_len x S #[S] rfl
theorem ev_append (s x:Operand) (S d:Nat) (ats:Array Nat) (h:ats=#[S,S]) (hp:¬ (Ext.pa S d=true∧nilApp P st S (st.ev s) (st.ev x))):evOp P call ops ⟨some d,.call ⟨.builtin .append,#[s,x],ats⟩,T,pos,aft,none⟩ st=bnd (appendA P st S (st.ev s) (st.ev x)) fun ur =>
 some (((match ur.1 with | some p=>st.setH p.1 p.2 none | none=>st).new d ur.2).put (some d) (.own d (st.cnt d))):=by
 subst h
 rw[evOp_none]
 simp only[opEff,callEff,bnd,if_true]
 rw[if_neg hp]
 cases appendA P st S (st.ev s) (st.ev x) with
 | none=>rfl
 | some ur =>
   obtain⟨u,r⟩:=ur
   cases u with
   | none=>simp only[Option.map_some,Option.map_none,apply_one]
   | some p=>simp only[Option.map_some,apply_two]
theorem ev_appendT (s x:Operand) (S d:Nat) (hp:Ext.pa S d=false):evOp P call ops ⟨some d,.call ⟨.builtin .append,#[s,x],#[S,S]⟩,T,pos,aft,none⟩ st=bnd (appendA P st S (st.ev s) (st.ev x)) fun ur =>
 some (((match ur.1 with | some p=>st.setH p.1 p.2 none | none=>st).new d ur.2).put (some d) (.own d (st.cnt d))):=ev_append s x S d #[S,S] rfl (by rw[hp];exact fun h=>absurd h.1 (by simp))
theorem ev_appP1 (s x:Operand) (S d:Nat) (hp:Ext.pa S d=true) (hn:¬ (st.ev s=.v (.slice none 0 0)∧(sliceView st (st.ev x)).map Prod.fst=some 0)):evOp P call ops ⟨some d,.call ⟨.builtin .append,#[s,x],#[S,S]⟩,T,pos,aft,none⟩ st=bnd (appendA P st S (st.ev s) (st.ev x)) fun ur =>
 some (((match ur.1 with | some p=>st.setH p.1 p.2 none | none=>st).new d ur.2).put (some d) (.own d (st.cnt d))):=ev_append s x S d #[S,S] rfl (fun h=>hn ⟨h.2.1,h.2.2.2⟩)
theorem ev_appP0 (s x:Operand) (S d:Nat) (hp:Ext.pa S d=true) (hi:(slInfo P S).isSome=true) (h1:st.ev s=.v (.slice none 0 0)) (h2:(sliceView st (st.ev x)).map Prod.fst=some 0):evOp P call ops ⟨some d,.call ⟨.builtin .append,#[s,x],#[S,S]⟩,T,pos,aft,none⟩ st=some (st.put (some d) (.v (.slice none 0 0))):=by
 rw[evOp_none]
 simp only[opEff,callEff,bnd,if_true]
 rw[if_pos ⟨hp,h1,hi,h2⟩]
 simp only[Eff.apply]
 rfl
theorem ev_const (x:Value):st.ev (.const x)=.v x:=rfl
theorem ev_tmp (t:Nat):st.ev (.tmp t)=st.env t:=rfl
theorem env_put (t d:Nat) (x:AV):(st.put (some d) x).env t=if t=d then x else st.env t:=rfl
theorem env_put_none (t:Nat) (x:AV):(st.put none x).env t=st.env t:=rfl
theorem env_new (t d:Nat) (e:Ent):(st.new d e).env t=st.env t:=rfl
theorem env_setH (t s g:Nat) (e:Option Ent):(st.setH s g e).env t=st.env t:=rfl
theorem cnt_put (t:Nat) (d:Option Nat) (x:AV):(st.put d x).cnt t=st.cnt t:=by cases d<;>rfl
theorem cnt_new (t d:Nat) (e:Ent):(st.new d e).cnt t=if t=d then st.cnt d+1 else st.cnt t:=rfl
theorem cnt_setH (t s g:Nat) (e:Option Ent):(st.setH s g e).cnt t=st.cnt t:=rfl
theorem heap_put (s g:Nat) (d:Option Nat) (x:AV):(st.put d x).heap s g=st.heap s g:=by cases d<;>rfl
theorem heap_new (s g d:Nat) (e:Ent):(st.new d e).heap s g=if s=d∧g=st.cnt d then some e else st.heap s g:=rfl
theorem heap_setH (s g s0 g0:Nat) (e:Option Ent):(st.setH s0 g0 e).heap s g=if s=s0∧g=g0 then e else st.heap s g:=rfl
theorem env_init (t:Nat) (xs:List AV):(St.init xs).env t=(xs[t]?).getD (.v undef):=rfl
theorem cnt_init (t:Nat) (xs:List AV):(St.init xs).cnt t=0:=rfl
theorem heap_init (s g:Nat) (xs:List AV):(St.init xs).heap s g=none:=rfl
theorem put_none (x:AV):st.put none x=st:=rfl
theorem apply_plain (d:Option Nat) (x:AV):({ dst:=d,val:=x }:Eff).apply st=st.put d x:=rfl
theorem apply_new (d:Option Nat) (x:AV) (n:Nat) (e:Ent):({ dst:=d,val:=x,new:=some (n,[e])}:Eff).apply st=(st.new n e).put d x:=apply_one d x n e
theorem apply_upd (d:Option Nat) (x:AV) (s g:Nat) (e:Option Ent):({ dst:=d,val:=x,upd:=some (s,g,e)}:Eff).apply st=(st.setH s g e).put d x:=rfl
theorem apply_updnew (d:Option Nat) (x:AV) (s g n:Nat) (z:Option Ent) (e:Ent):({ dst:=d,val:=x,upd:=some (s,g,z),new:=some (n,[e])}:Eff).apply st=((st.setH s g z).new n e).put d x:=apply_two d x s g n z e
theorem call_flat {g:Nat} {args:List AV} {r:AV} (hf:∀ x∈args,Flat x) (h:call g args=some r) (hr:Flat r):callFn call g args st d=some { dst:=d,val:=r }:=by
 unfold callFn
 rw[if_pos hf,h]
 simp only[bnd,putRes,if_pos hr]
theorem call_uniq {g:Nat} {args:List AV} {d e sz n:Nat} {cs:List AV} (hf:∀ x∈args,Flat x) (h:call g args=some (.uniq e sz n cs)) :
 callFn call g args st (some d)=some { dst:=some d,val:=.own d (st.cnt d),new:=some (d,[.row e sz n cs])}:=by
 unfold callFn
 rw[if_pos hf,h]
 have:¬ Flat (.uniq e sz n cs):=by intro h;cases h
 simp only[bnd,putRes,if_neg this]
 rfl
end
end Go.Ab
end
