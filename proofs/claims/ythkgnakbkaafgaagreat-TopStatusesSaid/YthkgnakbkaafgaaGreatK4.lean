/-
  Part 4 of the proof: an evaluator of programs, its soundness, and what functions of this program compute.
-/
import Derived.Test.YthkgnakbkaafgaaGreatK3
set_option linter.all false
set_option maxRecDepth 20000
set_option maxHeartbeats 40000000
open Go.IntKind (i64)
open List
noncomputable section
section
namespace Go.Ab
open Classical
variable {x r y:AV} {fn:Func} {u:Nat × Nat × Nat × List AV × List AV} {xs:List AV} {vs:Array Value} {n:Nat}
variable [Ext]
section
variable {P:Program}
theorem D2 {h0:Nat->Obj->Prop} {w w':World}:(bare (Ge h0 w w')).Le (bare (newHs h0 w w' [])) :=
 ⟨fun b o h=>⟨h.1,h.2,qe⟩,fun _=>Nat.le_refl _,fun _ _ h=>absurd h (by simp[bare])⟩
def Ch (tmps:Array Value):ResultVar->Sem Value
 | .tmp t=>pure (tmps.getD t undef)
 | .cell p t=>do loadVar t (<- asAddr (tmps.getD p undef))
theorem UL {h0:Nat->Obj->Prop} {w0:World} {F:Jb} {nt:Nat} {ρ:Nat->Nat->Value} {st:St} {a:Act} {w:World} (S:kI F h0 w0 nt ρ st a w) {rv:ResultVar} (h:jP P st rv=some x) :
 ∃y,(Ch a.tmps rv).run P w=.ok y w/\cD (ctx h0 w0 ρ st w) x y:=by
 cases rv with
 | tmp t =>
   simp only[jP,cQ] at h;subst h;exact⟨_,rfl,S.env t⟩
 | cell p T =>
   simp only[jP] at h;cases A:rM st (st.env p) with
   | none=>simp[A,cT] at h
   | some cs =>
     simp only[A,cT] at h;obtain⟨b,off,arr,B,fr,hu,_,_⟩:=Rx S A (S.env p)
     obtain⟨r,hr,gS⟩:=DE S A h (S.env p)
     grind [Instr.loadAt,Instr.sureAddr,Ch,asAddr]
theorem mO {h0:Nat->Obj->Prop} {w0:World} {F:Jb} {nt:Nat} {ρ:Nat->Nat->Value} {st:St} {a:Act} {w:World} (S:kI F h0 w0 nt ρ st a w):∀(rs:List ResultVar) (xs:List AV),rs.map (jP P st)=xs.map some ->
 ∃ys,(rs.mapM (Ch a.tmps)).run P w=.ok ys w/\jD (ctx h0 w0 ρ st w) xs ys
 | [],xs,h=>by
   cases xs<;>simp_all [jD.nil]
 | r :: rs,xs,h=>by
   cases xs with
   | nil=>simp at h
   | cons x xs =>
     simp only[map_cons,List.cons.injEq] at h;obtain⟨y,hy,gS⟩:=UL S h.1
     obtain⟨ys,KL,hrels⟩:=mO S rs xs h.2
     simp_all [jD.cons]
theorem UM {h0:Nat->Obj->Prop} {w0:World} {F:Jb} {nt:Nat} {ρ:Nat->Nat->Value} {st:St} {a:Act} {w:World} (S:kI F h0 w0 nt ρ st a w) (h:xR P fn st=some r) :
 ∃v,(results fn a.tmps).run P w=.ok v w/\FX h0 w0 w r v:=by
 have aDG:∀(ys:List Value),(fn.results.toList.mapM (Ch a.tmps)).run P w=.ok ys w ->
  (results fn a.tmps).run P w=.ok (if h:ys.toArray.size=1 then ys.toArray[0] else .tuple ys.toArray) w:=by
  intro ys KL;have e:results fn a.tmps=(do let vs <- fn.results.mapM (Ch a.tmps);pure (if h:vs.size=1 then vs[0] else .tuple vs)):=by
   unfold results;congr 1
  grind [Array.mapM_eq_mapM_toList,Sem.run_bind,Sem.run_map,Result.andThen_ok,Sem.run_pure]
 unfold xR at h;split at h
 ·rename_i r1 O2;cases J:jP P st r1 with
  | none=>simp[J,cT] at h
  | some x =>
    simp only[J,cT] at h;obtain⟨ys,KL,gS⟩:=mO (P:=P) S [r1] [x] bx
    have hlen:=gS.len
    obtain⟨y,rfl⟩:∃y,ys=[y]:=by
     cases ys<;>grind
    have hxy:=gS.head
    have u:=aDG [y] (by rw[O2];exact KL)
    simp at u
    refine⟨y,u, ?_⟩
    unfold Yr at h;split at h
    ·rename_i s g;split at h
     ·rename_i e sz n cs he;split at h
      ·rename_i W;simp only[cQ] at h;subst h;obtain⟨_,_,xs,ho,G⟩:=S.tG s g _ he
       cases hxy with
       | own _ _ hg KE =>
         refine⟨[ρ s g],fun x N=>qg,fun i j x y b hi hj _ _=>by
          grind,fun x N b hb=>by simp at N;subst N;exact (As ho b hb).1,fun d c=>rfl,fun D d c hD m=>?_⟩
         obtain⟨k1,k2⟩:=m 0 _ rfl
         simp only[Nat.add_zero] at k1 k2;refine⟨?_,fun i e' x hi N=>?_⟩
         ·have:=cD.own (C:=D) d c k1 (by rw[k2];exact KE)
          rw[k2] at this;exact this
         ·match i with
          | 0 =>
            simp only[XN,CT,pG,getElem?_cons_zero,cQ] at hi N;subst hi;subst N;exact⟨xs,ho,G.flat W fun b o hb=>hD b o ⟨hb.1,hb.2.1,by simpa using hb.2.2 s g _ he⟩⟩
          | i+1=>simp at N
      ·cases h
     ·cases h
    ·exact PV (Ni h) ((Qj S hxy h).le D2)
 ·rename_i rs mC;simp only[Option.map_eq_some_iff] at h;obtain⟨ds,Xe,rfl⟩:=h
  have hm:=jY _ _ Xe
  have hex:∃xs:List AV,fn.results.toList.map (jP P st)=xs.map some/\xs.map (Eu st)=ds.map some:=by
   generalize fn.results.toList=l at hm
   clear Xe
   induction l generalizing ds with
   | nil=>simp_all
   | cons r l ih=>cases ds with
     | nil=>simp at hm
     | cons d ds =>
       simp only[map_cons,List.cons.injEq] at hm;obtain⟨xs,A,M⟩:=ih ds hm.2
       cases X:jP P st r with
       | none=>simp[X,cT] at hm
       | some x =>
         simp only[X,cT] at hm;exact⟨x :: xs,by simp[X,A],by simp[hm.1,M]⟩
  obtain⟨xs,A,M⟩:=hex
  obtain⟨ys,KL,gS⟩:=mO S _ xs A
  have KY:xs.length=fn.results.toList.length:=QaI
  have hl2:ds.length=xs.length:=zt
  have aQg:ys.toArray.size≠1:=by
   grind [jD.len,length_eq_one_iff]
  have u:=aDG ys KL
  rw[dif_neg aQg] at u;refine⟨_,u, ?_⟩
  refine PV (.cY ds (qK (p:=Flat) (f:=fun r=>cT (jP P st r) (Eu st)) (fun a b h=>by
   cases X:jP P st a<;>grind [cT,W9]) _ _ Xe)) (.cY ds ys.toArray (by simp;rw[hl2];exact gS.len) fun i x y N Y=>?_)
  have hi:i<xs.length:=qg
  have R:Eu st xs[i]=some x:=by
   have:=congrArg (·[i]?) M
   grind
  exact (B4 S (gS.rel i xs[i] y zq xn) R).le D2
def tu (w0:World) (ρ:Nat->Nat->Value) (st:St) (w:World) (d:Nat) (H:Nat->Obj->Prop) (f:Nat->AV->AV × List mH) (y:AV) (C:List (Nat × Nat)) (u:Value):Prop :=
 (∀k∈C,∃e,st.heap k.1 k.2=some e)/\∀c,(f c y).2.length=C.length/\∀D:Ctx,(∀b o,H b o->D.h b o)->(∀(i:Nat) (k:Nat × Nat),C[i]? = some k->c+i<D.aJ d/\D.ρ d (c+i)=ρ k.1 k.2) ->
  cD D (f c y).1 u/\∀(i:Nat) (e:mH) (k:Nat × Nat),(f c y).2[i]? = some e->C[i]? = some k->lU D w w0.heap.size (ρ k.1 k.2) e
section oM
variable {h0:Nat->Obj->Prop} {w0:World} {F:Jb} {nt:Nat} {ρ:Nat->Nat->Value} {st:St} {a:Act} {w:World} {H:Nat->Obj->Prop}
theorem aHH (S:kI F h0 w0 nt ρ st a w) (hH:∀b o,(ctx h0 w0 ρ st w).h b o->H b o) {u:Value} (hu:cD (ctx h0 w0 ρ st w) x u) (h:kZ st x=some y) (d:Nat):tu w0 ρ st w d H (pG d) y (gP x) u:=by
 unfold kZ at h;split at h
 ·rename_i W;simp only[cQ] at h;subst h;have R:gP x=[]:=by cases W<;>rfl
  rw[R];refine⟨qe,fun c=>?_⟩
  grind [xG,cD.flat]
 ·split at h
  ·rename_i s g _;split at h
   ·rename_i e sz n cs he;split at h
    ·rename_i W;simp only[cQ] at h;subst h;obtain⟨_,J,xs,p,G⟩:=S.tG s g _ he
     have A:u=ρ s g:=by cases hu;rfl
     subst A
     refine⟨by simp[gP];exact⟨_,he⟩,fun c=>⟨rfl,fun D hD m=>?_⟩⟩
     obtain⟨k1,l⟩:=m 0 (s,g) rfl
     simp only[Nat.add_zero] at k1 l;refine⟨?_,fun i e' k hi R=>?_⟩
     ·have:=cD.own (C:=D) d c k1 (by rw[l];exact J)
      rw[l] at this;exact this
     ·match i with
      | 0 =>
        simp only[pG,gP,getElem?_cons_zero,cQ] at hi R;subst hi;subst R;exact⟨xs,p,G.flat W fun b o hb=>hD _ _ (hH _ _ hb)⟩
      | i+1=>simp[gP] at R
    ·cases h
   ·cases h
  ·cases h
theorem aHI {f:Nat->AV->AV × List mH} {kf:AV->List (Nat × Nat)} {d:Nat}:∀(xs ys:List AV) (us:List Value),xs.length=ys.length->xs.length=us.length ->
 (∀(i:Nat) (x y:AV) (u:Value),xs[i]? = some x->ys[i]? = some y->us[i]? = some u->tu w0 ρ st w d H f y (kf x) u) ->
 (∀k∈xs.flatMap kf,∃e,st.heap k.1 k.2=some e)/\∀c,(kH f c ys).2.length=(xs.flatMap kf).length/\∀D:Ctx,(∀b o,H b o->D.h b o) ->
  (∀(i:Nat) (k:Nat × Nat),(xs.flatMap kf)[i]? = some k->c+i<D.aJ d/\D.ρ d (c+i)=ρ k.1 k.2) ->
  jD D (kH f c ys).1 us/\∀(i:Nat) (e:mH) (k:Nat × Nat),(kH f c ys).2[i]? = some e->(xs.flatMap kf)[i]? = some k->lU D w w0.heap.size (ρ k.1 k.2) e
 | [],ys,us,J,h2,_=>by
   grind [jD.nil,kH]
 | x :: xs,[],us,J,_,_=>by simp at J
 | x :: xs,y :: ys,[],_,h2,_=>by simp at h2
 | x :: xs,y :: ys,u :: us,J,h2,hg=>by
   obtain⟨g1,g2⟩:=hg 0 x y u rfl rfl rfl
   obtain⟨i1,i2⟩:=aHI xs ys us ja oo fun i x' A C N Y hu=>hg (i+1) x' A C (by simpa using N) xn (by simpa using hu)
   refine⟨fun k R=>?_,fun c=>?_⟩
   ·grind
   ·obtain⟨r,m1⟩:=g2 c
    obtain⟨W,m2⟩:=i2 (c+(f c y).2.length)
    rw[r] at W m2;simp only[kH,flatMap_cons,length_append,r];refine⟨by rw[W],fun D l m=>?_⟩
    obtain⟨r1,e1⟩:=m1 D l fun i k R=>m i k qg
    obtain⟨r2,e2⟩:=m2 D l fun i k R=>by
     have:=m ((kf x).length+i) k qg
     grind
    grind [jD.cons]
theorem HR {α β:Type} {f:α->Option β} {l:List α} {r:List β} (h:bM (l.map f)=some r):l.length=r.length/\∀(i:Nat) x y,l[i]? = some x->r[i]? = some y->f x=some y:=by
 have hm:=jY _ _ h
 have W:l.length=r.length:=by have:=congrArg List.length hm;simpa using this
 refine⟨W,fun i x y hx hy=>?_⟩
 have:=congrArg (·[i]?) hm
 grind
theorem aNW (S:kI F h0 w0 nt ρ st a w) (R:∀b o,(ctx h0 w0 ρ st w).h b o->H b o) {u:Value} (hu:cD (ctx h0 w0 ρ st w) x u) (h:tE st x=some y) (d:Nat):tu w0 ρ st w d H (CT d) y (jB x) u:=by
 cases x
 case agg cs =>
  simp only[tE,Option.map_eq_some_iff] at h;obtain⟨ds,M,rfl⟩:=h
  obtain⟨W,aK4⟩:=HR M
  cases hu with
  | agg _ p hla X J =>
    obtain⟨g1,g2⟩:=aHI (w0:=w0) (ρ:=ρ) (st:=st) (w:=w) (H:=H) (f:=pG d) (kf:=gP) (d:=d) cs ds p.toList W (by simpa using hla) fun i x y v N Y C=>aHH S R (X i x v N jb) (aK4 i x y N Y) d
    refine⟨g1,fun c=>?_⟩
    obtain⟨r,m1⟩:=g2 c
    refine⟨r,fun D l m=>?_⟩
    obtain⟨G,A⟩:=m1 D l m
    exact⟨.agg _ p (by simpa using G.len) (fun i x y N Y=>G.rel i x y N xn) J,A⟩
 all_goals
  have g:=aHH S R hu h d
  cases y<;>first|exact g|skip
  grind [tE,kZ]
theorem aNX (S:kI F h0 w0 nt ρ st a w) (R:∀b o,(ctx h0 w0 ρ st w).h b o->H b o) {u:Value} (hu:cD (ctx h0 w0 ρ st w) x u) (h:Ev st x=some y) (d:Nat):tu w0 ρ st w d H (XN d) y (nD x) u:=by
 cases x
 case cY cs =>
  simp only[Ev,Option.map_eq_some_iff] at h;obtain⟨ds,M,rfl⟩:=h
  obtain⟨W,J⟩:=HR M
  cases hu with
  | cY _ p hla X =>
    obtain⟨g1,g2⟩:=aHI (w0:=w0) (ρ:=ρ) (st:=st) (w:=w) (H:=H) (f:=CT d) (kf:=jB) (d:=d) cs ds p.toList W (by simpa using hla) fun i x y v N Y C=>aNW S R (X i x v N jb) (J i x y N Y) d
    refine⟨g1,fun c=>?_⟩
    obtain⟨r,m1⟩:=g2 c
    refine⟨r,fun D l m=>?_⟩
    obtain⟨G,A⟩:=m1 D l m
    exact⟨.cY _ p (by simpa using G.len) (fun i x y N Y=>G.rel i x y N xn),A⟩
 case agg cs =>
  have g:=aNW S R hu h d
  cases y<;>first|exact g|grind [Ev,tE,Option.map_eq_some_iff]
 all_goals
  have g:=aHH S R hu h d
  cases y<;>first|exact g|skip
  all_goals grind [Ev,tE,kZ]
theorem Zt (S:kI F h0 w0 nt ρ st a w) {u:Value} (hu:cD (ctx h0 w0 ρ st w) x u) (hn:(nD x).Nodup) (h:Ev st x=some r):FX h0 w0 w r u:=by
 have hH:∀b o,(ctx h0 w0 ρ st w).h b o->newHs h0 w0 w ((nD x).map fun k=>ρ k.1 k.2) b o:=fun b o hb=>by
  have g:=(aNX (H:=(ctx h0 w0 ρ st w).h) S (fun _ _ h=>h) hu h 0).1
  refine⟨hb.1,hb.2.1,fun y Y=>?_⟩
  obtain⟨k,R,rfl⟩:=mem_map.1 Y
  obtain⟨e,he⟩:=g k R
  exact hb.2.2 _ _ e he
 have g:=fun d=>aNX S hH hu h d
 have key:∀y∈(nD x).map (fun k=>ρ k.1 k.2),∃k e,k∈nD x/\y=ρ k.1 k.2/\st.heap k.1 k.2=some e:=fun y Y=>by
  obtain⟨k,R,rfl⟩:=mem_map.1 Y
  obtain⟨e,he⟩:=(g 0).1 k R
  grind
 refine⟨(nD x).map fun k=>ρ k.1 k.2,fun y Y=>?_,fun i j y z b Y hz hb wQ=>?_,fun y Y b hb=>?_,fun d c=>by rw[((g d).2 c).1];simp,fun D d c l m=>?_⟩
 ·obtain⟨k,e,_,rfl,he⟩:=key y Y
  exact (S.tG _ _ e he).2.1
 ·rw[getElem?_map] at Y hz;cases hi:(nD x)[i]? with
  | none=>simp[hi] at Y
  | some k=>cases hj:(nD x)[j]? with
    | none=>simp[hj] at hz
    | some A =>
      simp only[hi,hj,cR,cQ] at Y hz;subst Y;subst hz;obtain⟨e,he⟩:=(g 0).1 k (mem_of_getElem? hi)
      obtain⟨e',Ep⟩:=(g 0).1 A (mem_of_getElem? hj)
      grind [kI.inj,pairwise_iff_getElem]
 ·obtain⟨k,e,_,rfl,he⟩:=key y Y
  exact ((S.tG _ _ e he).2.2.KO b hb).1
 ·obtain⟨r1,e1⟩:=((g d).2 c).2 D l fun i k R=>m i _ qg
  grind
end oM
theorem MC {h0:Nat->Obj->Prop} {w0:World} {F:Jb} {nt:Nat} {ρ:Nat->Nat->Value} {st:St} {a:Act} {w:World} (S:kI F h0 w0 nt ρ st a w) (h:Rs P fn st=some r) :
 ∃v,(results fn a.tmps).run P w=.ok v w/\FX h0 w0 w r v:=by
 have R:∀(ys:List Value),(fn.results.toList.mapM (Ch a.tmps)).run P w=.ok ys w ->
  (results fn a.tmps).run P w=.ok (if h:ys.toArray.size=1 then ys.toArray[0] else .tuple ys.toArray) w:=by
  intro ys C;have e:results fn a.tmps=(do let vs <- fn.results.mapM (Ch a.tmps);pure (if h:vs.size=1 then vs[0] else .tuple vs)):=by
   unfold results;congr 1
  grind [Array.mapM_eq_mapM_toList,Sem.run_bind,Sem.run_map,Result.andThen_ok,Sem.run_pure]
 unfold Rs at h;split at h
 ·rename_i G D;cases J:jP P st G with
  | none=>simp[J,cT] at h
  | some x =>
    simp only[J,cT] at h;split at h
    ·rename_i M;obtain⟨ys,C,gS⟩:=mO (P:=P) S [G] [x] bx
     have hlen:=gS.len
     obtain⟨y,rfl⟩:∃y,ys=[y]:=by
      cases ys<;>grind
     have u:=R [y] (by rw[D];exact C)
     simp at u
     exact⟨y,u,Zt S gS.head M h⟩
    ·cases h
 ·rename_i rs mC;cases m:bM (fn.results.toList.map fun r=>jP P st r) with
  | none=>simp[m,cT] at h
  | some xs =>
    simp only[m,cT] at h;split at h
    ·rename_i M;have A:=jY _ _ m
     obtain⟨ys,C,gS⟩:=mO S _ xs A
     have KY:xs.length=fn.results.toList.length:=QaI
     have W:ys.toArray.size≠1:=by
      grind [jD.len,length_eq_one_iff]
     have u:=R ys C
     rw[dif_neg W] at u;exact⟨_,u,Zt S (.cY xs ys.toArray (by simpa using gS.len) fun i x y N Y=>gS.rel i x y N xn) M h⟩
    ·cases h
theorem MD {h0:Nat->Obj->Prop} {w0:World} {F:Jb} {nt:Nat} {ρ:Nat->Nat->Value} {st:St} {a:Act} {w:World} (S:kI F h0 w0 nt ρ st a w) {f:Nat} (h:kJ P f fn st=some r) :
 ∃v,(results fn a.tmps).run P w=.ok v w/\FX h0 w0 w r v:=by
 grind [kJ,MC,UM]
theorem aHJ {h0:Nat->Obj->Prop} {w:World} {nt:Nat} (u:∀b o,h0 b o->w.heap[b]? = some o) (J:jD (bare h0) xs vs.toList) :
 kI Jb.none h0 w nt (fun _ _=>undef) (St.init xs) { tmps:=vs++Array.replicate (nt-vs.size) undef,defers:=[]} w:=by
 have k:(bare h0).Le (ctx h0 w (fun _ _=>undef) (St.init xs) w):=⟨fun b o h=>⟨u b o h,fun _=>h,fun s g e he=>by simp[St.init] at he⟩,fun _=>Nat.le_refl _,fun _ _ h=>absurd h (by simp[bare])⟩
 refine⟨fun t=>?_,fun s g e he=>by simp[St.init] at he,fun s g s' g' e e' b he=>by simp[St.init] at he,⟨rfl,rfl,rfl,Nat.le_refl _,fun _ _ _=>rfl⟩,qs,rfl,⟨fun x v h=>h.elim,fun b o h=>h.elim,Nat.zero_le _⟩⟩
 have hlen:=J.len
 simp only[Array.length_toList] at hlen;show cD _ ((xs[t]?).getD (.v undef)) _
 by_cases D:t<vs.size
 ·have N:xs[t]? = some (xs[t]' WF):=qg
  have Y:vs.toList[t]? = some vs[t]:=by simp[D]
  have:=(J.rel t _ _ N Y).le k
  rw[N];simp only[Option.getD_some];have e:(vs++Array.replicate (nt-vs.size) undef).getD t undef=vs[t]:=by
   simp[Array.getElem?_append_left D,D]
  grind
 ·have N:xs[t]? = none:=getElem?_eq_none WF
  rw[N];have e:(vs++Array.replicate (nt-vs.size) undef).getD t undef=undef:=by
   rw[Array.getD_eq_getD_getElem?,Array.getElem?_append_right WF,Array.getElem?_replicate]
   split<;>rfl
  rw[e];exact .v _
def Ze (P:Program):Prop:=mN P Ext.ext/\Pf P Ext.Zy
theorem aLh {h0:Nat->Obj->Prop} {w0:World} {F:Jb} {nt:Nat} {ρ:Nat->Nat->Value} {st:St} {a:Act} {w:World} (S:kI F h0 w0 nt ρ st a w) (J:jD (ctx h0 w0 ρ st w) xs vs.toList) :
 kI ⟨fun x v=>F.fr x v\/∃t,x=st.env t/\v=a.tmps.getD t undef,F.hb,F.sz⟩ h0 w0 n ρ ((St.init xs).back st) { tmps:=vs++Array.replicate (n-vs.size) undef,defers:=[]} w:=by
 have hc:ctx h0 w0 ρ ((St.init xs).back st) w=ctx h0 w0 ρ st w:=rfl
 refine⟨fun t=>?_,fun s g e he=>?_,fun s g D g' e e' b he R=>S.inj s g D g' e e' b he R,S.ext,qs,rfl,⟨fun x v h=>?_,S.Rk.2.1,S.Rk.2.2⟩⟩
 ·have hlen:=J.len
  simp only[Array.length_toList] at hlen;show cD _ ((xs[t]?).getD (.v undef)) _
  by_cases ht:t<vs.size
  ·have N:xs[t]? = some (xs[t]' WF):=qg
   have Y:vs.toList[t]? = some vs[t]:=by simp[ht]
   have:=J.rel t _ _ N Y
   rw[N];simp only[Option.getD_some];have e:(vs++Array.replicate (n-vs.size) undef).getD t undef=vs[t]:=by
    simp[Array.getElem?_append_left ht,ht]
   grind
  ·have N:xs[t]? = none:=getElem?_eq_none WF
   rw[N];have e:(vs++Array.replicate (n-vs.size) undef).getD t undef=undef:=by
    rw[Array.getD_eq_getD_getElem?,Array.getElem?_append_right WF,Array.getElem?_replicate]
    split<;>rfl
   rw[e];exact .v _
 ·exact S.tG s g e he
 ·rcases h with h|⟨t,rfl,rfl⟩
  ·exact S.Rk.1 x v h
  ·exact S.env t
theorem D3 {h0:Nat->Obj->Prop} {w0:World} {F:Jb} {nt:Nat} {ρ:Nat->Nat->Value} {st:St} {a:Act} {w:World} (S:kI F h0 w0 nt ρ st a w) {v:Value} (h:cD (ctx h0 w0 ρ st w) x v) :
 ∃N,kI F h0 w0 nt N (Iq st x).2 a w/\cD (ctx h0 w0 N (Iq st x).2 w) (Iq st x).1 v:=by
 have same:∃N,kI F h0 w0 nt N st a w/\cD (ctx h0 w0 N st w) x v:=⟨ρ,S,h⟩
 unfold Iq;split
 ·rename_i s g k;split
  ·rename_i e sz n cs he;split
   ·rename_i R;cases h with
    | vw _ _ _ _ b cap hg hb nM r =>
      have hb:cW (ρ s g)=some b:=hb
      obtain⟨_,_,xs,ho,G⟩:=S.tG s g _ he
      have r:=r rfl
      have hle:k * sz<=n * sz:=Nat.mul_le_mul_right _ R
      have D:0<cap/\kK w w0.heap.size e sz (.slice (some ⟨b,0,none⟩) k cap) k (xs.take (k * sz)):=by
       rcases ho.2 with ⟨p,hv,_⟩|⟨g',DF,cur,hv,m,u,o3,X,Y,o6,l⟩
       ·grind [pH]
       ·have A:=r _ _ _ hv
        rw[hv,gK l] at hb;cases hb
        subst A;exact⟨l,by rw[length_take,ho.1];omega,.inr ⟨g',cap,cur,rfl,m,u,WF,X,Y,qg,l⟩⟩
      obtain⟨M,_,W⟩:=S.QS he (World.grownBy.refl w _) s (.row e sz k (cs.take (k * sz))) (.slice (some ⟨b,0,none⟩) k cap) rfl (fun c hbc=>.inl (by
       grind [gK])) (fun C J=>⟨_,D.2,(G.take _).le J⟩)
      refine⟨_,M, ?_⟩
      have:=cD.own (C:=ctx h0 w0 (sD ρ s (st.aJ s) (.slice (some ⟨b,0,none⟩) k cap)) ((st.gV s g none).new s (.row e sz k (cs.take (k * sz)))) w) s (st.aJ s) mw (by rw[show (ctx h0 w0 (sD ρ s (st.aJ s) (.slice (some ⟨b,0,none⟩) k cap)) ((st.gV s g none).new s (.row e sz k (cs.take (k * sz)))) w).ρ s (st.aJ s)=_ from W];rfl)
      rwa [show (ctx h0 w0 (sD ρ s (st.aJ s) (.slice (some ⟨b,0,none⟩) k cap)) ((st.gV s g none).new s (.row e sz k (cs.take (k * sz)))) w).ρ s (st.aJ s)=_ from W] at this
   ·exact same
  ·exact same
 ·exact same
theorem ME {h0:Nat->Obj->Prop} {w0:World} {F:Jb} {nt:Nat} {ρ:Nat->Nat->Value} {st:St} {a:Act} {w:World} (S:kI F h0 w0 nt ρ st a w) (h:zY P fn st=some r) :
 ∃v,(results fn a.tmps).run P w=.ok v w/\cD (ctx h0 w0 ρ st w) r v:=by
 have aDG:∀(ys:List Value),(fn.results.toList.mapM (Ch a.tmps)).run P w=.ok ys w ->
  (results fn a.tmps).run P w=.ok (if h:ys.toArray.size=1 then ys.toArray[0] else .tuple ys.toArray) w:=by
  intro ys C;have e:results fn a.tmps=(do let vs <- fn.results.mapM (Ch a.tmps);pure (if h:vs.size=1 then vs[0] else .tuple vs)):=by
   unfold results;congr 1
  grind [Array.mapM_eq_mapM_toList,Sem.run_bind,Sem.run_map,Result.andThen_ok,Sem.run_pure]
 unfold zY at h;split at h
 ·rename_i G O2;obtain⟨ys,C,J⟩:=mO (P:=P) S [G] [r] zu
  have hlen:=J.len
  obtain⟨y,rfl⟩:∃y,ys=[y]:=by
   cases ys<;>grind
  grind [jD.head]
 ·rename_i rs mC;cases m:bM (fn.results.toList.map fun r=>jP P st r) with
  | none=>simp[m] at h
  | some xs =>
    simp only[m,cR,cQ] at h;subst h;have A:=jY _ _ m
    obtain⟨ys,C,J⟩:=mO S _ xs A
    have KY:xs.length=fn.results.toList.length:=QaI
    grind [jD.len,length_eq_one_iff,cD.cY,jD.rel]
theorem MF (h:vQ xs=some u):xs=.uniq u.1 u.2.1 u.2.2.1 u.2.2.2.1 :: u.2.2.2.2:=by
 unfold vQ at h;grind
theorem aDH {h0:Nat->Obj->Prop} {w:World} {v0:Value} {e sz m:Nat} {cs:List AV} {ys:List Value} {nt:Nat} (u:∀b o,h0 b o->w.heap[b]? = some o) (S:∀b o,h0 b o->cW v0≠some b) (p:kK w 0 e sz v0 m ys) (G:dN (bare h0) cs ys) (J:jD (bare h0) xs vs.toList) :
 kI ⟨fun _ _=>False,fun b o=>w.heap[b]? = some o/\cW v0≠some b,w.heap.size⟩ h0 { w with heap:=#[]} nt (fun s g=>if s=0/\g=0 then v0 else undef) (St.uS e sz m cs xs) { tmps:=(#[v0]++vs)++Array.replicate (nt-(#[v0]++vs).size) undef,defers:=[]} w:=by
 have uP:∀s g e',(St.uS e sz m cs xs).heap s g=some e'->s=0/\g=0/\e'=.row e sz m cs:=fun s g e' h=>by
  grind [St.uS]
 have k:(bare h0).Le (ctx h0 { w with heap:=#[]} (fun s g=>if s=0/\g=0 then v0 else undef) (St.uS e sz m cs xs) w) :=
  ⟨fun b o h=>⟨u b o h,fun A=>by simp at A,fun s g e' he=>by
   obtain⟨rfl,rfl,_⟩:=uP _ _ _ he
   exact S b o h⟩,fun _=>Nat.zero_le _,fun _ _ h=>absurd h (by simp[bare])⟩
 refine⟨fun t=>?_,fun s g e' he=>?_,fun s g s' g' e1 M b he Ep _ _=>?_,⟨rfl,rfl,rfl,Nat.zero_le _,fun b hb _=>by simp at hb⟩,qs,rfl,⟨fun x v h=>h.elim,fun b o h=>⟨h.1,fun A=>by simp at A,fun s g e' he=>?_⟩,Nat.le_refl _⟩⟩
 ·have hlen:=J.len
  simp only[Array.length_toList] at hlen;cases t with
  | zero =>
    have e0:((#[v0]++vs)++Array.replicate (nt-(#[v0]++vs).size) undef).getD 0 undef=v0:=by
     simp[Array.getElem?_append]
    rw[e0];have:=cD.own (C:=ctx h0 { w with heap:=#[]} (fun s g=>if s=0/\g=0 then v0 else undef) (St.uS e sz m cs xs) w) 0 0 (by show 0<(St.uS e sz m cs xs).aJ 0;simp[St.uS]) (by show (if (0:Nat)=0/\(0:Nat)=0 then v0 else undef).oneCell'=true;simp;exact pI p)
    grind [ctx,St.uS]
  | succ t =>
    show cD _ ((xs[t]?).getD (.v undef)) _
    by_cases D:t<vs.size
    ·have N:xs[t]? = some (xs[t]' WF):=qg
     have Y:vs.toList[t]? = some vs[t]:=by simp[D]
     have:=(J.rel t _ _ N Y).le k
     rw[N];simp only[Option.getD_some];have M:((#[v0]++vs)++Array.replicate (nt-(#[v0]++vs).size) undef).getD (t+1) undef=vs[t]:=by
      rw[Array.getD_eq_getD_getElem?,Array.getElem?_append_left qs,Array.getElem?_append_right qe]
      simp[D]
     grind
    ·have N:xs[t]? = none:=getElem?_eq_none WF
     rw[N];have M:((#[v0]++vs)++Array.replicate (nt-(#[v0]++vs).size) undef).getD (t+1) undef=undef:=by
      rw[Array.getD_eq_getD_getElem?,Array.getElem?_append_right qs,Array.getElem?_replicate]
      split<;>rfl
     rw[M];exact .v _
 ·obtain⟨rfl,rfl,rfl⟩:=uP _ _ _ he
  refine⟨by simp[St.uS],by simp;exact pI p, ?_⟩
  simp only[and_self,if_true];exact⟨ys,p,G.le k⟩
 all_goals grind
theorem aLi (hm:P.follows .mixedOrders=true) {call:Nat->List AV->Option AV} {inl:Nat->List AV->St->Option (AV × St)} (lM:mN P call) (Un:Pf P inl) {g:Nat} (hq:vQ xs=some u)
 (h:runM P call inl n g u.1 u.2.1 u.2.2.1 u.2.2.2.1 u.2.2.2.2=some r):Enters P g/\pU P g xs r:=by
 have TU:=MF hq
 subst TU;obtain⟨e,sz,m,cs,rest⟩:=u
 simp only at h ⊢
 unfold runM at h;cases W:P.funcs[g]? with
 | none=>simp[W] at h
 | some fn =>
   simp only[W] at h;split at h
   ·rename_i nU;cases hb:fn.body with
    | none=>simp[hb] at h
    | some c =>
      simp only[hb] at h;simp only[rP,Oq,hb,Bool.and_eq_true,bne_iff_ne,ne_eq] at nU;refine⟨⟨fn,W,by simpa using nU.1,by simp[hb]⟩, ?_⟩
      show TS P g e sz m cs rest r
      intro w h0 v0 ys vs hh mC p Hr gS;cases J:xZ P (nG c) call inl n c (St.uS e sz m cs rest) with
      | none=>simp[J,cT] at h
      | some es =>
        obtain⟨ex,sf⟩:=es
        simp only[J,cT] at h;refine calls_of_wp W hb ?_
        refine sR hm lM Un n c (St.uS e sz m cs rest) sf ex _ _ w _ nU.2 (aDH hh mC p Hr gS) J fun oZ a' w' M=>?_
        have fin:Db P fn sf=some r->∃e' l n' Gw,r=.uniq e' l n' Gw/\a'.defers=[]/\∃v',(results fn a'.tmps).run P w'=.ok v' w'/\w.grownBy w' (cW v0) /\
         ∃zs,kK w' 0 e' l v' n' zs/\dN (bare h0) Gw zs/\∀b,cW v'=some b->cW v0=some b\/w.heap.size<=b:=fun h=>by
         unfold Db at h;split at h
         ·rename_i G O2;split at h
          ·rename_i s k hrv;split at h
           ·rename_i e' l n' Gw hhp
            split at h
            ·rename_i hmf;simp only[cQ] at h;subst h;obtain⟨y,Y,Uf⟩:=mO (P:=P) M [G] [.own s k] (by simp[hrv])
             have hlen:=Uf.len
             obtain⟨z,rfl⟩:∃z,y=[z]:=by
              cases y<;>grind
             have R:z=oZ s k:=by
              have:=Uf.head
              cases this
              rfl
             subst R;have xK:(results fn a'.tmps).run P w'=.ok (oZ s k) w':=by
              have e1:results fn a'.tmps=(do let vs <- fn.results.mapM (Ch a'.tmps);pure (if h:vs.size=1 then vs[0] else .tuple vs)):=by
               unfold results;congr 1
              grind [Array.mapM_eq_mapM_toList,Sem.run_bind,Sem.run_map,Result.andThen_ok,Sem.run_pure]
             obtain⟨_,_,zs,hzo,hzc⟩:=M.tG s k _ hhp
             obtain⟨_,hkb,hsz⟩:=M.Rk
             refine⟨e',l,n',Gw,rfl,M.defers,_,xK,⟨M.ext.os,M.ext.tape,M.ext.output,hsz,fun b hb hnb=>?_⟩,zs, ?_, ?_,fun b hb=>?_⟩
             ·have PM:w.heap[b]? = some w.heap[b]:=Array.getElem?_eq_getElem hb
              rw[PM];exact (hkb b _ ⟨PM,fun h=>hnb h.symm⟩).1
             ·omega
             ·exact⟨hzc.len,fun i x y N Y=>(hzc.rel i x y N Y).Uc (hmf x (mem_of_getElem? N)),hzc.one⟩
             ·by_cases J:cW v0=some b
              ·exact .inl J
              ·right
               rcases Nat.lt_or_ge b w.heap.size with A|y7
               ·exfalso
                have PM:w.heap[b]? = some w.heap[b]:=Array.getElem?_eq_getElem A
                exact (hkb b _ ⟨PM,J⟩).2.2 s k _ hhp hb
               ·exact y7
            ·cases h
           ·cases h
          ·rename_i s k n0 hrv;split at h
           ·rename_i e' l n' Gw hhp
            split at h
            ·rename_i hmf;obtain⟨Gt,hcl',hmf⟩:=hmf
             simp only[cQ] at h;subst h;obtain⟨y,Y,Uf⟩:=mO (P:=P) M [G] [.vw s k 0 n0] (by simp[hrv])
             have hlen:=Uf.len
             obtain⟨z,rfl⟩:∃z,y=[z]:=by
              cases y<;>grind
             obtain⟨_,_,zs,hzo,hzc⟩:=M.tG s k _ hhp
             obtain⟨_,hkb,hsz⟩:=M.Rk
             have R:∃b cap cur,z=.slice (some ⟨b,0,none⟩) n0 cap/\cW (oZ s k)=some b/\w'.heap[b]? = some (.cells cur e' (0,0))/\n0<=cap/\cap<=maxLen/\cur.size=cap * l/\cur.toList.take (n' * l)=zs/\0<cap:=by
              have C:=Uf.head
              cases C with
              | vw _ _ _ _ b cap hg hb nM wR =>
                have wQ:cW (oZ s k)=some b:=hb
                rcases hzo.2 with ⟨q,lP,hn⟩|⟨b',DF,cur,lP,vE,hh,aDB,KJ,Tq,D,yX⟩
                ·grind [pH]
                ·have Pn:b'=b:=ji
                 subst Pn;have hcc:cap=DF:=wR rfl _ _ _ lP
                 subst hcc;exact⟨b',cap,cur,rfl,wQ,hh,nM,KJ,Tq,D,yX⟩
             obtain⟨b,cap,cur,rfl,hbk,hhb,nM,KJ,Tq,D,yX⟩:=R
             have xK:(results fn a'.tmps).run P w'=.ok (.slice (some ⟨b,0,none⟩) n0 cap) w':=by
              have e1:results fn a'.tmps=(do let vs <- fn.results.mapM (Ch a'.tmps);pure (if h:vs.size=1 then vs[0] else .tuple vs)):=by
               unfold results;congr 1
              grind [Array.mapM_eq_mapM_toList,Sem.run_bind,Sem.run_map,Result.andThen_ok,Sem.run_pure]
             have hks:n0 * l<=n' * l:=Nat.mul_le_mul_right _ Gt
             refine⟨e',l,n0,_,rfl,M.defers,_,xK,⟨M.ext.os,M.ext.tape,M.ext.output,hsz,fun b hb hnb=>?_⟩,zs.take (n0 * l), ?_, ?_,fun b1 XF=>?_⟩
             ·have PM:w.heap[b]? = some w.heap[b]:=Array.getElem?_eq_getElem hb
              rw[PM];exact (hkb b _ ⟨PM,fun h=>hnb h.symm⟩).1
             ·refine⟨by rw[length_take,hzo.1];omega,.inr ⟨b,cap,cur,rfl,Nat.zero_le _,hhb,nM,KJ,Tq, ?_,yX⟩⟩
              grind
             ·have hz2:dN (bare h0) Gw zs:=⟨hzc.len,fun i x y N Y=>(hzc.rel i x y N Y).Uc (hmf x (mem_of_getElem? N)),hzc.one⟩
              exact hz2.take _
             ·rw[gK yX] at XF;simp only[cQ] at XF;subst XF;by_cases J:cW v0=some b
              ·exact .inl J
              ·right
               rcases Nat.lt_or_ge b w.heap.size with A|y7
               ·exfalso
                have PM:w.heap[b]? = some w.heap[b]:=Array.getElem?_eq_getElem A
                exact (hkb b _ ⟨PM,J⟩).2.2 s k _ hhp hbk
               ·exact y7
            ·cases h
           ·cases h
          ·cases h
         ·cases h
        cases ex with
        | normal=>obtain⟨e',l,n',Gw,rfl,J,v',h2,S,X⟩:=fin h;exact⟨J,v',h2,v',rfl,S,X⟩
        | ret=>obtain⟨e',l,n',Gw,rfl,J,v',h2,S,X⟩:=fin h;exact⟨J,v',h2,v',rfl,S,X⟩
        | exit id=>cases h
   ·cases h
theorem aB3 (hm:P.follows .mixedOrders=true) (N:Ze P):∀n,mN P (Ri P n)/\Pf P (CY P n)
 | 0=>⟨fun g xs r h=>N.1 g xs r h,fun g xs st r D h=>wu⟩
 | n+1=>by
   obtain⟨m,p⟩:=aB3 hm N n
   refine⟨fun g xs r h=>?_,fun g xs st r D h=>?_⟩
   ·rw[Bf] at h;split at h
    ·rename_i r' he
     simp only[cQ] at h;subst h;exact N.1 g xs _ he
    ·cases hq:vQ xs with
     | some u =>
       grind [aLi]
     | none =>
     simp only[hq] at h;split at h
     ·cases h
     rename_i hnu;unfold ef at h;cases W:P.funcs[g]? with
     | none=>simp[W] at h
     | some fn =>
       simp only[W] at h;split at h
       ·rename_i R;cases hb:fn.body with
        | none=>simp[hb] at h
        | some c =>
          simp only[hb] at h;simp only[rP,Oq,hb,Bool.and_eq_true,bne_iff_ne,ne_eq] at R;have G:Eh P g xs r->pU P g xs r:=fun h=>by
           unfold pU;grind [tF]
          refine⟨⟨fn,W,by simpa using R.1,by simp[hb]⟩,G fun w h0 vs hh gS=>?_⟩
          cases J:xZ P (nG c) (Ri P n) (CY P n) n c (St.init xs) with
          | none=>simp[J,cT] at h
          | some es =>
            obtain⟨ex,sf⟩:=es
            simp only[J,cT] at h;refine calls_of_wp W hb ?_
            refine sR hm m p n c (St.init xs) sf ex _ _ w _ R.2 (aHJ hh gS) J fun oZ a' w' M=>?_
            have fin:kJ P g fn sf=some r->a'.defers=[]/\∃v,(results fn a'.tmps).run P w'=.ok v w'/\∃v',Ending.returned v=.returned v'/\FX h0 w w' r v'/\w.grownBy w' none:=fun h=>by
             grind [MD,kI.defers,kI.ext]
            cases ex with
            | normal=>exact fin h
            | ret=>exact fin h
            | exit id=>cases h
       ·cases h
   ·rw[Jq] at h;cases A:Ext.Zy g xs st with
    | some q =>
      rw[A] at h;simp only[cQ] at h;subst h;exact N.2 g xs st r D A
    | none =>
    rw[A] at h;unfold eg at h;cases W:P.funcs[g]? with
    | none=>simp[W] at h
    | some fn =>
      simp only[W] at h;split at h
      ·rename_i R;cases hb:fn.body with
       | none=>simp[hb] at h
       | some c =>
         simp only[hb] at h;simp only[Oq,hb,Bool.and_eq_true,bne_iff_ne,ne_eq] at R;refine⟨⟨fn,W,by simpa using R.1,by simp[hb]⟩,fun F h0 w0 nt ρ a w vs K S gS hK=>?_⟩
         cases J:xZ P true (Ri P n) (CY P n) n c ((St.init xs).back st) with
         | none=>simp[J,cT] at h
         | some es =>
           obtain⟨ex,sf⟩:=es
           simp only[J,cT] at h;refine calls_of_wp W hb ?_
           refine sR (F:=⟨fun x v=>F.fr x v\/∃t,x=st.env t/\v=a.tmps.getD t undef,F.hb,F.sz⟩) hm m p n c ((St.init xs).back st) sf ex _ _ w _ R.2 (aLh S gS) J fun oZ a' w' M=>?_
           have fin:(zY P fn sf).map (Iq sf)=some (r,D)->a'.defers=[]/\∃v,(results fn a'.tmps).run P w'=.ok v w'/\∃v',Ending.returned v=.returned v'/\K v' w':=fun h=>by
            cases Y:zY P fn sf with
            | none=>simp[Y] at h
            | some x =>
              simp only[Y,cR,cQ] at h;obtain⟨v,C,X⟩:=ME M Y
              have l:=M.defers
              obtain⟨oZ,M,X⟩:=D3 M X
              rw[h] at M X
              refine⟨l,v,C,v,rfl,hK oZ w' v ?_ X⟩
              exact⟨fun t=>M.Rk.1 _ _ (.inr ⟨t,rfl,rfl⟩),fun s g e he=>M.tG s g e he,fun s g s2 g' e e' b he Ep=>M.inj s g s2 g' e e' b he Ep,M.ext,S.size,S.defers,⟨fun x v h=>M.Rk.1 x v (.inl h),M.Rk.2.1,M.Rk.2.2⟩⟩
           cases ex with
           | normal=>exact fin h
           | ret=>exact fin h
           | exit id=>cases h
      ·cases h
theorem U5 (hm:P.follows .mixedOrders=true) (N:Ze P) (n:Nat):mN P (Ri P n):=(aB3 hm N n).1
end
end Go.Ab
end
section
namespace Go.Ab
open Classical
variable {α β:Type} {n m g f:Nat} {l:Option (List Nat)} {args xs:List AV} {st s:St} {dst:Option Nat} {e:rI} {o:Oper} {ops:Array Oper} {r:AV × St} {x:Code} {t:Bool} {fn:Func}
variable [Ext]
def lim (g:Nat->Option α):Option α:=if h:∃n r,g n=some r then some (Classical.choose (Classical.choose_spec h)) else none
theorem CN {g:Nat->Option α} (hm:∀n r,g n=some r->g (n+1)=some r) (h:n<=m) {r:α} (hr:g n=some r):g m=some r:=by
 induction m<;>grind
theorem UN {g:Nat->Option α} (hm:∀n r,g n=some r->g (n+1)=some r) (r:α):lim g=some r↔∃n,g n=some r:=by
 unfold lim;constructor
 ·intro h;split at h
  all_goals grind
 ·rintro⟨n,M⟩
  have u:∃n r,g n=some r:=⟨n,r,M⟩
  rw[dif_pos u];have h2:=Classical.choose_spec (Classical.choose_spec u)
  congr 1
  rcases Nat.le_total n (Classical.choose u) with hle|hle
  ·have:=CN hm hle M
   grind
  ·have:=CN hm hle h2
   grind
theorem gR {x:Option α} {f:α->Option β} {r:β}:cT x f=some r↔∃a,x=some a/\f a=some r:=by
 cases x<;>simp[cT]
def HS (i i':Nat->List AV->St->Option (AV × St)):Prop:=∀g xs st r,i g xs st=some r->i' g xs st=some r
def tJ (c c':Nat->List AV->Option AV):Prop:=∀g xs r,c g xs=some r->c' g xs=some r
section
variable (P:Program) {c c':Nat->List AV->Option AV} {i i':Nat->List AV->St->Option (AV × St)} {bi:Bool}
theorem HT {x y:Option α} {f:α->Option β} {r:β} (h:∀a,x=some a->y=some a) (hx:cT x f=some r):cT y f=some r:=by
 cases Kh:x<;>grind [cT]
theorem tJ.CV (h:tJ c c') {l:Option (List Nat)}:tJ (CV l c) (CV l c'):=by
 cases l with
 | none=>exact h
 | some l =>
   intro g xs r X;simp only[Go.Ab.CV,Oo] at X ⊢;split at X
   ·rename_i W;rw[if_pos W];obtain⟨a,J,h2⟩:=gR.1 X
    rw[h _ _ _ J];exact h2
   ·cases X
theorem Ds (h:tJ c c') (he:aO c g args st dst=some e):aO c' g args st dst=some e:=by
 unfold aO at *
 split at he
 ·rename_i W;rw[if_pos W];exact HT (h g args) he
 ·rename_i W;rw[if_neg W];split at he
  ·rename_i xs TU;exact HT (h g xs) he
  ·cases he
theorem D4 (h:tJ c c') (he:kU c g args st dst=some e):kU c' g args st dst=some e:=by
 unfold kU at *
 split at he
 ·split at he
  ·rename_i e0 sz n cs u;split at he
   ·rename_i G;rename_i rest _;simp only[u,if_pos G];cases X:c g (.uniq e0 sz n cs :: rest) with
    | none=>simp[X] at he
    | some r=>rw[h _ _ _ X];grind
   ·cases he
  ·cases he
 grind [Ds]
theorem UO (h:tJ c c') (he:eH c g args st dst=some e):eH c' g args st dst=some e:=by
 unfold eH at *
 split at he
 ·rename_i s k hk;split at he
  ·rename_i R;rw[if_pos R];split at he
   ·rename_i xs TU;exact HT (h g xs) he
   ·cases he
  ·cases he
 grind [Ds]
theorem UP (h:tJ c c') {f:Operand} (he:pE c f args st dst=some e):pE c' f args st dst=some e:=by
 cases f
 case func g =>
  simp only[pE] at *
  by_cases hm:Ext.mv g=true
  ·grind [D4]
  ·rw[if_neg hm] at *
   by_cases J:Ext.B1 g dst=true
   ·rw[if_pos J] at *
    exact UO h.CV he
   ·rw[if_neg J] at *
    exact Ds h.CV he
 all_goals grind [pE,Ds]
theorem Z1 (h:tJ c c') (he:dU P c o st=some e):dU P c' o st=some e:=by
 grind [dU,iZ,UP]
theorem aDI (h:tJ c c') (he:cU P c ops o st=some s):cU P c' ops o st=some s:=by
 unfold cU at *
 split at he
 ·split at he
  ·rename_i b hg hb;rw[if_pos hb];cases h1:dU P c o st<;>grind [Z1]
  grind
 ·cases he
theorem HU (h:tJ c c') (hi:HS i i') (he:fZ P bi c i ops o st=some s):fZ P bi c' i' ops o st=some s:=by
 unfold fZ at he ⊢
 cases hg:(if bi=true then Ip o else none) with
 | none =>
   grind [aDI]
 | some G =>
   obtain⟨g,args⟩:=G
   simp only[hg] at he ⊢;cases R:gv ops st o.guard with
   | none=>simp[R] at he
   | some t =>
     simp only[R] at he ⊢;cases t with
     | false=>exact he
     | true =>
       simp only[if_true] at he ⊢;cases J:i g (args.map st.ev) st with
       | none=>simp[J] at he
       | some r=>rw[hi _ _ _ _ J];grind
theorem Dt (h:tJ c c') (hi:HS i i') {ops:Array Oper}:∀(l:List Oper) {st s:St},mW P bi c i ops l st=some s->mW P bi c' i' ops l st=some s
 | [],st,s,he=>he
 | o :: l,st,s,he=>by
   simp only[mW] at *
   obtain⟨s1,J,h2⟩:=gR.1 he
   exact gR.2 ⟨s1,HU P h hi J,Dt h hi l h2⟩
theorem pW (h:tJ c c') (hi:HS i i'):∀(n m:Nat),n<=m->∀(x:Code) (st:St) (r:Ex × St),xZ P bi c i n x st=some r->xZ P bi c' i' m x st=some r
 | 0,_,_,_,_,_,he=>by simp[xZ] at he
 | n+1,0,hle,_,_,_,_=>by omega
 | n+1,m+1,hle,x,st,r,he=>by
   have ih:=pW h hi n m WF
   cases x<;>simp only[xZ] at he ⊢<;>(try exact he)
   all_goals grind [gR,Dt]
theorem Xn:∀n,tJ (Ri P n) (Ri P (n+1))/\HS (CY P n) (CY P (n+1))
 | 0=>⟨fun g xs r h=>by
   grind [CZ,Bf],fun g xs st r h=>wu⟩
 | n+1=>by
   obtain⟨S,ii⟩:=Xn n
   refine⟨fun g xs r h=>?_,fun g xs st r h=>?_⟩
   ·rw[Bf] at h ⊢;cases he:Ext.ext g xs with
    | some r'=>grind
    | none =>
      simp only[he] at h;simp only
      cases N:vQ xs with
      | some u =>
        simp only[N] at h;simp only
        unfold runM at h ⊢
        split at h
        ·split at h
         ·rename_i R;rw[if_pos R];split at h
          ·obtain⟨G,J,h2⟩:=gR.1 h
           exact gR.2 ⟨G,pW P S ii n (n+1) WF _ _ _ J,h2⟩
          ·cases h
         ·cases h
        ·cases h
      | none =>
        simp only[N] at h;simp only
        by_cases hu:xs.any tF=true
        ·grind
        ·rw[if_neg hu] at h ⊢;unfold ef at h ⊢
         split at h
         ·split at h
          ·rename_i R;rw[if_pos R];split at h
           ·obtain⟨G,J,h2⟩:=gR.1 h
            exact gR.2 ⟨G,pW P S ii n (n+1) WF _ _ _ J,h2⟩
           ·cases h
          ·cases h
         ·cases h
   ·rw[Jq] at h ⊢;split at h
    ·exact h
    unfold eg at h ⊢
    split at h
    ·split at h
     ·rename_i R;rw[if_pos R];split at h
      ·obtain⟨G,J,h2⟩:=gR.1 h
       exact gR.2 ⟨G,pW P S ii n (n+1) WF _ _ _ J,h2⟩
      ·cases h
     ·cases h
    ·cases h
theorem HV (n:Nat):tJ (Ri P n) (Ri P (n+1)):=(Xn P n).1
theorem HW (n:Nat):HS (CY P n) (CY P (n+1)):=(Xn P n).2
theorem El (h:n<=m):tJ (Ri P n) (Ri P m):=fun g xs r X =>
 CN (g:=fun n=>Ri P n g xs) (fun n r=>HV P n g xs r) h X
theorem Em (h:n<=m):HS (CY P n) (CY P m):=fun g xs st r X =>
 CN (g:=fun n=>CY P n g xs st) (fun n r=>HW P n g xs st r) h X
def aA (f:Nat) (xs:List AV):Option AV:=lim fun n=>Ri P n f xs
def oX (f:Nat) (xs:List AV) (st:St):Option (AV × St):=lim fun n=>CY P n f xs st
def vN (bi:Bool) (x:Code) (st:St):Option (Ex × St):=lim fun n=>xZ P bi (Ri P n) (CY P n) n x st
theorem oC {r:AV}:aA P f xs=some r↔∃n,Ri P n f xs=some r:=UN (fun n r=>HV P n f xs r) r
theorem Up:oX P f xs st=some r↔∃n,CY P n f xs st=some r:=UN (fun n r=>HW P n f xs st r) r
theorem gJ {r:Ex × St}:vN P bi x st=some r↔∃n m,xZ P bi (Ri P n) (CY P n) m x st=some r:=by
 unfold vN;rw[UN (fun n r=>pW P (HV P n) (HW P n) n (n+1) WF x st r)]
 constructor
 ·grind
 ·rintro⟨n,m,h⟩
  exact⟨max n m,pW P (El P (Nat.le_max_left n m)) (Em P (Nat.le_max_left n m)) m _ (Nat.le_max_right n m) x st r h⟩
theorem FY (hm:P.follows .mixedOrders=true) (N:Ze P) {r:AV} (h:aA P f xs=some r):pU P f xs r:=by
 obtain⟨n,M⟩:=(oC P).1 h
 exact (U5 hm N n f xs r M).2
theorem aLj (n:Nat):HS (CY P n) (oX P):=fun g xs st r h=>(Up P).2 ⟨n,h⟩
theorem aHK (n:Nat):tJ (Ri P n) (aA P):=fun g xs r h=>(oC P).2 ⟨n,h⟩
theorem aB4 {f:AV->Option β} {r:β} (h:cT (CV l (aA P) g xs) f=some r):∃n,cT (CV l (Ri P n) g xs) f=some r:=by
 obtain⟨a,J,h2⟩:=gR.1 h
 cases l with
 | none =>
   obtain⟨n,M⟩:=(oC P).1 J
   exact⟨n,gR.2 ⟨a,M,h2⟩⟩
 | some l =>
   simp only[CV,Oo] at J ⊢;grind [gR,oC]
theorem Ie (h:aO (CV l (aA P)) g args st dst=some e):∃n,aO (CV l (Ri P n)) g args st dst=some e:=by
 grind [aO,aB4]
theorem Z2 (h:kU (aA P) g args st dst=some e):∃n,kU (Ri P n) g args st dst=some e:=by
 unfold kU at h ⊢
 split at h
 ·rename_i s k rest;split at h
  all_goals grind [oC]
 ·split at h
  ·rename_i G;simp only[if_pos G];exact Ie P (l:=none) h
  ·cases h
theorem D5 (h:eH (CV l (aA P)) g args st dst=some e):∃n,eH (CV l (Ri P n)) g args st dst=some e:=by
 unfold eH at h ⊢
 split at h
 ·rename_i s k hk;split at h
  ·rename_i R;simp only[if_pos R];split at h
   all_goals grind [aB4]
  ·cases h
 grind [Ie]
theorem aDJ (h:dU P (aA P) o st=some e):∃n,dU P (Ri P n) o st=some e:=by
 obtain⟨dst,op,type,pos,after,guard⟩:=o
 cases op
 case call cl =>
  simp only[dU] at *
  unfold iZ at *
  split at h
  ·unfold pE at h ⊢
   split at h
   ·grind [Z2,D5,Ie]
   ·split at h
    ·exact Ie P (l:=none) h
    ·cases h
  all_goals exact⟨0,h⟩
 case makeMap T r=>cases r<;>exact⟨0,h⟩
 all_goals exact⟨0,h⟩
theorem aHL (h:cU P (aA P) ops o st=some s):∃n,cU P (Ri P n) ops o st=some s:=by
 unfold cU at *
 split at h
 ·split at h
  ·rename_i b hg hb;cases h1:dU P (aA P) o st<;>grind [aDJ]
  simp_all
 ·cases h
theorem aDK (h:fZ P bi (aA P) (oX P) ops o st=some s):∃n,fZ P bi (Ri P n) (CY P n) ops o st=some s:=by
 unfold fZ at h ⊢
 cases hg:(if bi=true then Ip o else none) with
 | none =>
   grind [aHL]
 | some G =>
   obtain⟨g,args⟩:=G
   simp only[hg] at h ⊢;cases R:gv ops st o.guard with
   | none=>simp[R] at h
   | some t =>
     simp only[R] at h ⊢;cases t with
     | false=>exact⟨0,h⟩
     | true =>
       simp only[if_true] at h ⊢;cases h1:oX P g (args.map st.ev) st<;>grind [Up]
theorem HX {ops:Array Oper}:∀(l:List Oper) {st s:St},mW P bi (aA P) (oX P) ops l st=some s->∃n,mW P bi (Ri P n) (CY P n) ops l st=some s
 | [],st,s,h=>⟨0,h⟩
 | o :: l,st,s,h=>by
   simp only[mW] at *
   obtain⟨s1,J,h2⟩:=gR.1 h
   obtain⟨n,M⟩:=aDK P J
   obtain⟨m,hm⟩:=HX l h2
   exact⟨max n m,gR.2 ⟨s1,HU P (El P (Nat.le_max_left n m)) (Em P (Nat.le_max_left n m)) M,Dt P (El P (Nat.le_max_right n m)) (Em P (Nat.le_max_right n m)) l hm⟩⟩
theorem Uq {A:Nat->List AV->Option AV} {ii:Nat->List AV->St->Option (AV × St)} {ops:Array Oper}:∀(l:List Oper) (st:St),mW P false A ii ops l st=Rq P A ops l st
 | [],st=>rfl
 | o :: l,st=>by
   have e:∀s,fZ P false A ii ops o s=cU P A ops o s:=fun s=>rfl
   unfold mW Rq;rw[e];congr 1
   funext s
   exact Uq l s
theorem D6 (st:St):vN P bi .skip st=some (.normal,st):=(gJ P).2 ⟨0,1,rfl⟩
theorem D7 (id:Nat) (st:St):vN P bi (.exit id) st=some (.exit id,st):=(gJ P).2 ⟨0,1,rfl⟩
theorem aB5 (st:St):vN P bi .ret st=some (.ret,st):=(gJ P).2 ⟨0,1,rfl⟩
theorem HY (id:Nat) (ops:Array Oper) (d:Bool) (st:St):vN P bi (.region id ops d) st=cT (mW P bi (aA P) (oX P) ops ops.toList st) fun s=>if bi=true/\¬sC ops s (Ext.dyn id ops.size (tK ops)) then none else some (.normal,s):=by
 apply Option.ext
 intro r;rw[gJ,gR];constructor
 ·rintro⟨n,m,h⟩
  cases m<;>grind [xZ,gR,Dt,aHK,aLj]
 ·rintro⟨s1,J,h2⟩
  obtain⟨n,hn⟩:=HX P _ J
  exact⟨n,1,by grind [xZ,gR]⟩
def HZ (r:Ex × St) (k:St->Option (Ex × St)):Option (Ex × St) :=
 match r.1 with
 | .normal=>k r.2
 | e=>some (e,r.2)
theorem RT (a b:Code) (st:St):vN P bi (.seq a b) st=cT (vN P bi a st) fun r=>HZ r (vN P bi b):=by
 apply Option.ext
 intro r;rw[gJ,gR];constructor
 ·rintro⟨n,m,h⟩
  cases m with
  | zero=>simp[xZ] at h
  | succ m =>
    simp only[xZ] at h;obtain⟨⟨A,s1⟩,J,h2⟩:=gR.1 h
    refine⟨(A,s1),(gJ P).2 ⟨n,m,J⟩, ?_⟩
    cases A with
    | normal=>exact (gJ P).2 ⟨n,m,h2⟩
    | _=>exact h2
 ·rintro⟨⟨A,s1⟩,J,h2⟩
  obtain⟨G,m1,J⟩:=(gJ P).1 J
  cases A with
  | normal =>
    obtain⟨N,m2,h2⟩:=(gJ P).1 h2
    refine⟨max G N,max m1 m2+1, ?_⟩
    simp only[xZ];exact gR.2 ⟨(.normal,s1),pW P (El P (Nat.le_max_left _ _)) (Em P (Nat.le_max_left _ _)) _ _ (Nat.le_max_left _ _) _ _ _ J,pW P (El P (Nat.le_max_right _ _)) (Em P (Nat.le_max_right _ _)) _ _ (Nat.le_max_right _ _) _ _ _ h2⟩
  | exit id=>exact⟨G,m1+1,QbS⟩
  | ret=>exact⟨G,m1+1,Qb8⟩
theorem D8 (b:Code) (st:St):vN P bi (.loop b) st=cT (vN P bi b st) fun r=>HZ r (vN P bi (.loop b)):=by
 apply Option.ext
 intro r;rw[gJ,gR];constructor
 ·rintro⟨n,m,h⟩
  cases m with
  | zero=>simp[xZ] at h
  | succ m =>
    simp only[xZ] at h;obtain⟨⟨A,s1⟩,J,h2⟩:=gR.1 h
    refine⟨(A,s1),(gJ P).2 ⟨n,m,J⟩, ?_⟩
    cases A with
    | normal=>exact (gJ P).2 ⟨n,m,h2⟩
    | _=>exact h2
 ·rintro⟨⟨A,s1⟩,J,h2⟩
  obtain⟨G,m1,J⟩:=(gJ P).1 J
  cases A with
  | normal =>
    obtain⟨N,m2,h2⟩:=(gJ P).1 h2
    refine⟨max G N,max m1 m2+1, ?_⟩
    simp only[xZ];exact gR.2 ⟨(.normal,s1),pW P (El P (Nat.le_max_left _ _)) (Em P (Nat.le_max_left _ _)) _ _ (Nat.le_max_left _ _) _ _ _ J,pW P (El P (Nat.le_max_right _ _)) (Em P (Nat.le_max_right _ _)) _ _ (Nat.le_max_right _ _) _ _ _ h2⟩
  | exit id=>exact⟨G,m1+1,QbS⟩
  | ret=>exact⟨G,m1+1,Qb8⟩
theorem QD (id:Nat) (b:Code) (st:St):vN P bi (.block id b) st=cT (vN P bi b st) fun r=>some (r.1.inBlock id,r.2):=by
 apply Option.ext
 intro r;rw[gJ,gR];constructor
 ·rintro⟨n,m,h⟩
  cases m<;>grind [xZ,gR,gJ]
 ·rintro⟨r1,J,h2⟩
  obtain⟨G,m1,J⟩:=(gJ P).1 J
  exact⟨G,m1+1,by grind [xZ,gR]⟩
theorem aDk (l:Nat) (st:St):vN P bi (.label l) st=some (.normal,st):=by
 rw[gJ];exact⟨0,1,rfl⟩
theorem aDm (b:Code) (st:St):vN P bi (.scope b) st=vN P bi b st:=by
 apply Option.ext
 intro r;rw[gJ,gJ];constructor
 ·rintro⟨n,m,h⟩
  cases m<;>grind [xZ]
 ·rintro⟨n,m,h⟩
  exact⟨n,m+1,h⟩
theorem D9 (c:Operand) (a b:Code) (st:St) {t:Bool} (hc:st.ev c=ae t):vN P bi (.cond c a b) st=if t=true then vN P bi a st else vN P bi b st:=by
 apply Option.ext
 intro r;rw[gJ];constructor
 ·rintro⟨n,m,h⟩
  cases m<;>grind [xZ,gJ]
 ·intro h;split at h
  ·rename_i hb;obtain⟨n,m,h⟩:=(gJ P).1 h
   exact⟨n,m+1,by grind [xZ]⟩
  ·rename_i hb;obtain⟨n,m,h⟩:=(gJ P).1 h
   exact⟨n,m+1,by grind [xZ]⟩
def wP (x:Code) (st:St):Option (Ex × St):=vN P false x st
theorem aB6 {r:Ex × St}:wP P x st=some r↔∃n m,xZ P false (Ri P n) (CY P n) m x st=some r:=gJ P
theorem aHM (st:St):wP P .skip st=some (.normal,st):=D6 P st
theorem aHN (id:Nat) (st:St):wP P (.exit id) st=some (.exit id,st):=D7 P id st
theorem aLk (st:St):wP P .ret st=some (.ret,st):=aB5 P st
theorem Z3 (id:Nat) (ops:Array Oper) (d:Bool) (st:St):wP P (.region id ops d) st=cT (Rq P (aA P) ops ops.toList st) fun s=>some (.normal,s):=by
 rw[<- Uq P (ii:=oX P)];have h:=HY P (bi:=false) id ops d st
 simp only[Bool.false_eq_true,false_and,if_false] at h;exact h
theorem aLl (a b:Code) (st:St):wP P (.seq a b) st=cT (wP P a st) fun r=>HZ r (wP P b):=RT P a b st
theorem Ll (b:Code) (st:St):wP P (.loop b) st=cT (wP P b st) fun r=>HZ r (wP P (.loop b)):=D8 P b st
theorem aDL (id:Nat) (b:Code) (st:St):wP P (.block id b) st=cT (wP P b st) fun r=>some (r.1.inBlock id,r.2):=QD P id b st
theorem aHO (c:Operand) (a b:Code) (st:St) {t:Bool} (G:st.ev c=ae t):wP P (.cond c a b) st=if t=true then wP P a st else wP P b st:=D9 P c a b st G
def wY (f:Nat) (fn:Func) (r:Ex × St):Option AV :=
 match r.1 with
 | .exit _=>none
 | _=>kJ P f fn r.2
def aZ (fn:Func):Bool:=rP fn && (match fn.body with|some c=>!nG c|none=>true)
theorem Pg (h:xs.any tF=false):vQ xs=none:=by
 cases xs with
 | nil=>rfl
 | cons x xs =>
   cases x<;>first|rfl|simp[tF] at h
def ey (fn:Func) (r:Ex × St):Option AV :=
 match r.1 with
 | .exit _=>none
 | _=>Db P fn r.2
theorem YY {c:Code} (W:P.funcs[f]? = some fn) (hb:fn.body=some c) (R:rP fn=true) (e sz m:Nat) (cs xs:List AV) (N:Ext.ext f (.uniq e sz m cs :: xs)=none) :
 aA P f (.uniq e sz m cs :: xs)=cT (vN P (nG c) c (St.uS e sz m cs xs)) (ey P fn):=by
 apply Option.ext
 intro r;rw[oC,gR];have hq:vQ (.uniq e sz m cs :: xs)=some (e,sz,m,cs,xs):=rfl
 constructor
 ·rintro⟨n,h⟩
  cases n with
  | zero=>grind [CZ]
  | succ n =>
    simp only[Bf,N,hq,runM,W,R,hb,if_true] at h;obtain⟨G,J,h2⟩:=gR.1 h
    exact⟨G,(gJ P).2 ⟨n,n,J⟩,h2⟩
 ·rintro⟨G,J,h2⟩
  obtain⟨n,m',J⟩:=(gJ P).1 J
  refine⟨max n m'+1, ?_⟩
  simp only[Bf,N,hq,runM,W,R,hb,if_true];exact gR.2 ⟨G,pW P (El P (Nat.le_max_left _ _)) (Em P (Nat.le_max_left _ _)) _ _ (Nat.le_max_right _ _) _ _ _ J,h2⟩
theorem EA {c:Code} (W:P.funcs[f]? = some fn) (hb:fn.body=some c) (R:rP fn=true) (xs:List AV) (N:Ext.ext f xs=none) (hu:xs.any tF=false):aA P f xs=cT (vN P (nG c) c (St.init xs)) (wY P f fn):=by
 apply Option.ext
 intro r;rw[oC,gR];constructor
 ·rintro⟨n,h⟩
  cases n with
  | zero=>grind [CZ]
  | succ n =>
    simp only[Bf,N,Pg hu,hu,ef,W,R,hb,if_true] at h;obtain⟨G,J,h2⟩:=gR.1 h
    exact⟨G,(gJ P).2 ⟨n,n,J⟩,h2⟩
 ·rintro⟨G,J,h2⟩
  obtain⟨n,m,J⟩:=(gJ P).1 J
  refine⟨max n m+1, ?_⟩
  simp only[Bf,N,Pg hu,hu,ef,W,R,hb,if_true];exact gR.2 ⟨G,pW P (El P (Nat.le_max_left _ _)) (Em P (Nat.le_max_left _ _)) _ _ (Nat.le_max_right _ _) _ _ _ J,h2⟩
theorem dJ {c:Code} (W:P.funcs[f]? = some fn) (hb:fn.body=some c) (R:aZ fn=true) (xs:List AV) (N:Ext.ext f xs=none) (hu:xs.any tF=false):aA P f xs=cT (wP P c (St.init xs)) (wY P f fn):=by
 simp only[aZ,hb,Bool.and_eq_true,Bool.not_eq_true'] at R;rw[EA P W hb R.1 xs N hu,R.2];rfl
def gg (fn:Func) (r:Ex × St):Option (AV × St) :=
 match r.1 with
 | .exit _=>none
 | _=>(zY P fn r.2).map (Iq r.2)
theorem Aj {c:Code} (W:P.funcs[f]? = some fn) (hb:fn.body=some c) (R:Oq true fn=true) (xs:List AV) (st:St) (N:Ext.Zy f xs st=none:=by rfl):oX P f xs st=cT (vN P true c ((St.init xs).back st)) (gg P fn):=by
 apply Option.ext
 intro r;rw[Up,gR];constructor
 ·rintro⟨n,h⟩
  cases n with
  | zero=>rw[aE2] at h;cases h
  | succ n =>
    simp only[Jq,N,eg,W,R,hb,if_true] at h;obtain⟨G,J,h2⟩:=gR.1 h
    exact⟨G,(gJ P).2 ⟨n,n,J⟩,h2⟩
 ·rintro⟨G,J,h2⟩
  obtain⟨n,m,J⟩:=(gJ P).1 J
  refine⟨max n m+1, ?_⟩
  simp only[Jq,N,eg,W,R,hb,if_true];exact gR.2 ⟨G,pW P (El P (Nat.le_max_left _ _)) (Em P (Nat.le_max_left _ _)) _ _ (Nat.le_max_right _ _) _ _ _ J,h2⟩
theorem aGz (h:Ext.Zy f xs st=some r):oX P f xs st=some r:=(Up P).2 ⟨1,by rw[Jq,h]⟩
theorem Fz {f:Nat} {xs:List AV} {r:AV} (h:Ext.ext f xs=some r):aA P f xs=some r:=(oC P).2 ⟨0,h⟩
end
end Go.Ab
end
section
namespace Go.Ab
open Classical
variable {α β:Type} {s t:St} {cs args:List AV} {g e sz n:Nat}
variable [Ext]
def rd (cs:List AV) (o k:Nat):List AV:=(cs.drop o).take k
def wr (cs:List AV) (o:Nat) (xs:List AV):List AV:=cs.take o++xs++cs.drop (o+xs.length)
def ab (x:AV) (k:Bool->Option α):Option α :=
 match x with
 | .v (.bool b)=>k b
 | _=>none
section
variable (P:Program)
def gI (T:Nat) (cs:List AV) (o:Nat):Option AV :=
 match lJ P T with
 | some (true,k)=>if 0<k/\k<=cs.length-o then some (.agg (rd cs o k)) else none
 | some (false,_)=>cs[o]?
 | none=>none
def Fp (st:St) (T:Nat) (x:AV):Option AV :=
 match x with
 | .ip cs o=>gI P T cs o
 | .ptr s g o =>
   match st.heap s g with
   | some (.cells cs)=>gI P T cs o
   | some (.row _ _ _ cs)=>gI P T cs o
   | _=>none
 | _=>none
theorem aB7 (T:Nat) (cs:List AV) (o:Nat):zX P T (cs.drop o)=gI P T cs o:=by
 unfold zX gI;cases lJ P T with
 | none=>rfl
 | some A =>
   obtain⟨b,k⟩:=A
   cases b
   ·simp
   ·simp[rd]
theorem Ur (st:St) (T:Nat) (x:AV):cT (rM st x) (zX P T)=Fp P st T x:=by
 cases x<;>simp only[rM,cT,Fp,aB7]
 grind [aB7]
def CO (st:St) (T:Nat) (a x:AV):Option St:=(qW P st T a x).map fun u=>st.gV u.1 u.2.1 (some u.2.2)
variable {P}
variable {call:Nat->List AV->Option AV} {ops:Array Oper} {st:St} {d:Option Nat} {T:Nat} {pos:String} {aft:Array Edge}
@[congr] theorem aSU {x y:Option α} {f:α->Option β} (h:x=y):cT x f=cT y f:=yi
@[congr] theorem aSV {x y:AV} {k:Bool->Option α} (h:x=y):ab x k=ab y k:=yi
@[congr] theorem aNY {l:List Oper} (h:s=t):Rq P call ops l s=Rq P call ops l t:=yi
@[congr] theorem aQh {o:Oper} (h:s=t):cU P call ops o s=cU P call ops o t:=yi
@[congr] theorem aSW {c:Code} (h:s=t):wP P c s=wP P c t:=yi
theorem cC (a:α) (f:α->Option β):cT (some a) f=f a:=rfl
theorem Sw (f:α->Option β):cT none f=none:=rfl
theorem aHP (b:Bool) (k:Bool->Option α):ab (ae b) k=k b:=rfl
theorem aDM:Rq P call ops [] st=some st:=rfl
theorem Z4 (o:Oper) (l:List Oper):Rq P call ops (o :: l) st=cT (cU P call ops o st) (Rq P call ops l):=rfl
theorem eB (op:Op):cU P call ops ⟨d,op,T,pos,aft,none⟩ st=(dU P call ⟨d,op,T,pos,aft,none⟩ st).map fun e=>e.apply st:=rfl
theorem aLm (x:Operand):cU P call ops ⟨d,.move x,T,pos,aft,none⟩ st=some (st.put d (st.ev x)):=rfl
theorem aDN (x:Operand):cU P call ops ⟨d,.assign x,T,pos,aft,none⟩ st=some (st.put d (st.ev x)):=rfl
theorem aLn (c a b:Operand):cU P call ops ⟨d,.pick c a b,T,pos,aft,none⟩ st=ab (st.ev c) fun t=>some (st.put d (if t=true then st.ev a else st.ev b)):=by
 rw[eB];simp only[dU,jG];cases st.ev c<;>try rfl
 rename_i x;cases x<;>rfl
theorem aHQ (op:BinOp) (S:Nat) (x y:Operand) (A:Nat):cU P call ops ⟨d,.binOp op S x y A,T,pos,aft,none⟩ st=cT (jS P op S (st.ev x) (st.ev y)) fun v=>some (st.put d v):=by
 rw[eB];simp only[dU,jG];cases jS P op S (st.ev x) (st.ev y)<;>rfl
theorem aLo (op:UnOp) (S:Nat) (x:Operand):cU P call ops ⟨d,.unOp op S x,T,pos,aft,none⟩ st=cT (ca op (st.ev x)) fun v=>some (st.put d v):=by
 rw[eB];simp only[dU,jG];cases ca op (st.ev x)<;>rfl
def E0 (P:Program) (src dst:Nat) (x:AV):Option AV :=
 match x,intKind P dst,intKind P src with
 | .v (.int _ n),some k,some _=>some (.v (.int k (k.wrap n)))
 | _,_,_=>none
theorem Z5 (src dst:Nat) (x:Operand):cU P call ops ⟨d,.convert src dst x,T,pos,aft,none⟩ st=cT (E0 P src dst (st.ev x)) fun v=>some (st.put d v):=by
 rw[eB];simp only[dU,jG];show Option.map _ (Option.map _ (E0 P src dst (st.ev x)))=_
 cases E0 P src dst (st.ev x)<;>rfl
theorem aHR (S:Nat) (x:Operand) (f:Nat):cU P call ops ⟨d,.field S x f,T,pos,aft,none⟩ st=cT (Pk P S f (st.ev x)) fun v=>some (st.put d v):=by
 rw[eB];simp only[dU,jG];cases Pk P S f (st.ev x)<;>rfl
theorem Z6 {S f off k:Nat} (h:fieldInfo P S f=some (off,false,k)):Pk P S f (.agg cs)=cs[off]?:=by
 simp only[Pk,h]
theorem UQ (S:Nat) (x:Operand) (f:Nat):cU P call ops ⟨d,.fieldAddr S x f,T,pos,aft,none⟩ st=cT (bF P S f) fun k=>cT (wT (st.ev x) k) fun v=>some (st.put d v):=by
 rw[eB];simp only[dU,jG];cases bF P S f with
 | none=>rfl
 | some k =>
   simp only[cT];cases wT (st.ev x) k<;>rfl
theorem UR (S:Nat) (x i:Operand):cU P call ops ⟨d,.indexAddr S x i,T,pos,aft,none⟩ st=cT (bK P st S (st.ev x) (st.ev i)) fun v=>some (st.put d v):=by
 rw[eB];simp only[dU,jG];cases bK P st S (st.ev x) (st.ev i)<;>rfl
theorem aLp (S:Nat) (x:Operand):cU P call ops ⟨d,.load S x,T,pos,aft,none⟩ st=cT (Fp P st S (st.ev x)) fun v=>some (st.put d v):=by
 rw[eB];simp only[dU,jG,Ur];cases Fp P st S (st.ev x)<;>rfl
def bW (x:AV) (i:Nat):Option AV :=
 match x with
 | .cY vs=>vs[i]?
 | _=>none
theorem Z7 (t:Operand) (i:Nat):cU P call ops ⟨d,.extract t i,T,pos,aft,none⟩ st=cT (bW (st.ev t) i) fun v=>some (st.put d v):=by
 rw[eB];simp only[dU,jG];show Option.map _ (Option.map _ (bW (st.ev t) i))=_
 cases bW (st.ev t) i<;>rfl
theorem aHS (S:Nat) (parts:Array (Nat × Operand)):cU P call ops ⟨d,.build S parts,T,pos,aft,none⟩ st=cT (wU P st S parts.toList) fun v=>some (st.put d v):=by
 rw[eB];simp only[dU,jG];cases wU P st S parts.toList<;>rfl
theorem aHT (S:Nat) (x:Operand) (lo hi:Option Operand):cU P call ops ⟨d,.slice S x lo hi none,T,pos,aft,none⟩ st=cT (dW P st S (st.ev x) lo hi) fun v=>some (st.put d v):=by
 rw[eB];simp only[dU,jG];cases dW P st S (st.ev x) lo hi<;>rfl
theorem aHU (S d:Nat):cU P call ops ⟨some d,.alloc S,T,pos,aft,none⟩ st=cT (eC P S) fun z=>some ((st.new d (.cells (z.map .v))).put (some d) (.ptr d (st.aJ d) 0)):=by
 grind [eB,dU,cT,eC,mV]
theorem aQi (S d:Nat) (x:Operand):cU P call ops ⟨some d,.box S x,T,pos,aft,none⟩ st=if (st.ev x).lL=true then some ((st.new d (.cells (st.ev x).cells)).put (some d) (.ptr d (st.aJ d) 0)) else none:=by
 grind [eB,dU,cT,mV]
theorem aHV (S:Nat) (x y:Operand):cU P call ops ⟨d,.store S x y,T,pos,aft,none⟩ st=cT (CO P st S (st.ev x) (st.ev y)) fun s=>some (s.put d (.v undef)):=by
 rw[eB];simp only[dU,CO];cases qW P st S (st.ev x) (st.ev y)<;>rfl
theorem GO (g:Nat) (args:Array Operand) (A:Array Nat) (h:Ext.mv g=false) (h2:Ext.B1 g d=false):cU P call ops ⟨d,.call ⟨.value (.func g),args,A⟩,T,pos,aft,none⟩ st=cT (aO (CV (Ext.fz g d) call) g (args.toList.map st.ev) st d) fun e=>some (e.apply st):=by
 rw[eB];simp only[dU,iZ,pE,h,h2,Bool.false_eq_true,if_false];cases aO (CV (Ext.fz g d) call) g (args.toList.map st.ev) st d<;>rfl
theorem aBT (g:Nat) (args:Array Operand) (A:Array Nat) (h:Ext.mv g=false) (h2:Ext.B1 g d=false) (S:Ext.fz g d=none):cU P call ops ⟨d,.call ⟨.value (.func g),args,A⟩,T,pos,aft,none⟩ st=cT (aO call g (args.toList.map st.ev) st d) fun e=>some (e.apply st):=by
 rw[GO g args A h h2,S];rfl
theorem aHW (g:Nat) (args:Array Operand) (A:Array Nat) (h:Ext.mv g=true):cU P call ops ⟨d,.call ⟨.value (.func g),args,A⟩,T,pos,aft,none⟩ st=cT (kU call g (args.toList.map st.ev) st d) fun e=>some (e.apply st):=by
 rw[eB];simp only[dU,iZ,pE,h,if_true];cases kU call g (args.toList.map st.ev) st d<;>rfl
theorem IA (g:Nat) (args:Array Operand) (A:Array Nat) (h:Ext.mv g=false) (h2:Ext.B1 g d=true):cU P call ops ⟨d,.call ⟨.value (.func g),args,A⟩,T,pos,aft,none⟩ st=cT (eH (CV (Ext.fz g d) call) g (args.toList.map st.ev) st d) fun e=>some (e.apply st):=by
 rw[eB];simp only[dU,iZ,pE,h,h2,Bool.false_eq_true,if_false,if_true];cases eH (CV (Ext.fz g d) call) g (args.toList.map st.ev) st d<;>rfl
theorem aHX (t:Nat) (args:Array Operand) (A:Array Nat) {G:List AV} (h:st.env t=.rL g G):cU P call ops ⟨d,.call ⟨.value (.tmp t),args,A⟩,T,pos,aft,none⟩ st=cT (aO call g (args.toList.map st.ev++G) st d) fun e=>some (e.apply st):=by
 rw[eB];simp only[dU,iZ,pE,St.ev,h,XM];show Option.map _ (aO call g (args.toList.map st.ev++G) st d)=cT (aO call g (args.toList.map st.ev++G) st d) _
 cases aO call g (args.toList.map st.ev++G) st d<;>rfl
theorem aDO (S:Nat) (x:Operand) (lo:Option Operand) (hi D:Operand):cU P call ops ⟨d,.slice S x lo (some hi) (some D),T,pos,aft,none⟩ st=cT (tX P st S (st.ev x) lo hi D) fun v=>some (st.put d v):=by
 rw[eB];simp only[dU,jG];cases tX P st S (st.ev x) lo hi D<;>rfl
theorem Bd (S:Nat) (x i:Operand) (ok:Bool):cU P call ops ⟨d,.lookup S x i ok,T,pos,aft,none⟩ st=cT (Io P st S (st.ev x) (st.ev i) ok) fun v=>some (st.put d v):=by
 rw[eB];simp only[dU,jG];cases Io P st S (st.ev x) (st.ev i) ok<;>rfl
theorem GF (S d:Nat):cU P call ops ⟨some d,.makeMap S none,T,pos,aft,none⟩ st=some ((st.new d (.map [])).put (some d) (.mp d (st.aJ d))):=by
 grind [eB,dU,cT,mV]
theorem Ht (S:Nat) (m x y:Operand):cU P call ops ⟨d,.mapUpdate S m x y,T,pos,aft,none⟩ st=cT (qD P st S (st.ev m) (st.ev x) (st.ev y)) fun u=>some ((st.gV u.1 u.2.1 (some u.2.2)).put d (.v undef)):=by
 rw[eB];simp only[dU];cases qD P st S (st.ev m) (st.ev x) (st.ev y)<;>rfl
theorem E3 (g:Nat) (G:Array Operand):cU P call ops ⟨d,.makeFunc (.func g) #[] G,T,pos,aft,none⟩ st=some (st.put d (.rL g (G.toList.map st.ev))):=by
 rw[eB];simp only[dU,jG,if_true,cR];rfl
theorem IB {T d:Nat} (h:Ext.im T d=false):tD st T d e sz n cs={ dst:=some d,val:=.own d (st.aJ d),new:=some (d,[.row e sz n cs])}:=if_neg zu
theorem PL {T d:Nat} (h:Ext.im T d=true) (W:∀c∈cs,Flat c):tD st T d e sz n cs={ dst:=some d,val:=.sl n cs }:=if_pos ⟨h,W⟩
theorem aGZ (S n d:Nat) (parts:Array (Nat × Operand)):cU P call ops ⟨some d,.buildSlice S n parts,T,pos,aft,none⟩ st=cT (dD P S) fun t=>cT (eC P t.1) fun z =>
 if (0<n\/parts=#[])/\n * t.2.1<=2 ^ 24/\(parts.toList.all fun p=>(st.ev p.2).lL)=true then
  cT (mP (fun i=>some (i * t.2.1,t.2.1)) ((List.range n).flatMap fun _=>z.map .v) (parts.toList.map fun p=>(p.1,st.ev p.2))) fun cs =>
   some ((tD st S d t.1 t.2.1 n cs).apply st)
 else none:=by
 rw[eB];simp only[dU,cT];grind
theorem gF (S n d:Nat) (parts:Array (Nat × Operand)) (A:Ext.im S d=false):cU P call ops ⟨some d,.buildSlice S n parts,T,pos,aft,none⟩ st=cT (dD P S) fun t=>cT (eC P t.1) fun z =>
 if (0<n\/parts=#[])/\n * t.2.1<=2 ^ 24/\(parts.toList.all fun p=>(st.ev p.2).lL)=true then
  cT (mP (fun i=>some (i * t.2.1,t.2.1)) ((List.range n).flatMap fun _=>z.map .v) (parts.toList.map fun p=>(p.1,st.ev p.2))) fun cs =>
   some ((st.new d (.row t.1 t.2.1 n cs)).put (some d) (.own d (st.aJ d)))
 else none:=by
 simp only[aGZ,IB A,mV]
theorem aGY (S d:Nat) (l c:Operand) (W:st.ev l=aa n) (G:st.ev c=aa n):cU P call ops ⟨some d,.makeSlice S l c,T,pos,aft,none⟩ st=cT (dD P S) fun t=>cT (eC P t.1) fun z =>
 if (n:Int) * t.2.2<=140737488355328/\(n:Int)<=maxLen then some ((tD st S d t.1 t.2.1 n ((List.range n).flatMap fun _=>z.map .v)).apply st) else none:=by
 rw[eB];simp only[dU,cT,W,G];grind
theorem US (S d:Nat) (l c:Operand) (him:Ext.im S d=false) (hl:st.ev l=aa n) (hc:st.ev c=aa n):cU P call ops ⟨some d,.makeSlice S l c,T,pos,aft,none⟩ st=cT (dD P S) fun t=>cT (eC P t.1) fun z =>
 if (n:Int) * t.2.2<=140737488355328/\(n:Int)<=maxLen then some ((st.new d (.row t.1 t.2.1 n ((List.range n).flatMap fun _=>z.map .v))).put (some d) (.own d (st.aJ d))) else none:=by
 grind [mV,aGY,IB]
theorem aQj (x:Operand) (S:Nat) (A:Array Nat) (h:A=#[S]):cU P call ops ⟨d,.call ⟨.builtin .len,#[x],A⟩,T,pos,aft,none⟩ st=cT (dD P S) fun _=>cT (bA st (st.ev x)) fun C=>some (st.put d (aa C.1)):=by
 subst h;rw[eB];simp only[dU,iZ];cases dD P S with
 | none=>rfl
 | some t=>cases bA st (st.ev x) with
   | none=>rfl
   | some C=>cases C;rfl
theorem aLr (x:Operand) (S:Nat):cU P call ops ⟨d,.call ⟨.builtin .len,#[x],#[S]⟩,T,pos,aft,none⟩ st=cT (dD P S) fun _=>cT (bA st (st.ev x)) fun C=>some (st.put d (aa C.1)):=aQj x S #[S] rfl
theorem QE (s x:Operand) (S d:Nat) (A:Array Nat) (h:A=#[S,S]) (C:Ext.va S d=false) (hp:¬(Ext.pa S d=true/\QO P st S (st.ev s) (st.ev x))):cU P call ops ⟨some d,.call ⟨.builtin .append,#[s,x],A⟩,T,pos,aft,none⟩ st=cT (dS P st S (st.ev s) (st.ev x)) fun X =>
 some (((match X.1 with|some p=>st.gV p.1 p.2 none|none=>st).new d X.2).put (some d) (.own d (st.aJ d))):=by
 subst h;rw[eB];simp only[dU,iZ,cT,if_true,C,Bool.false_eq_true,if_false];grind [mV,Xj]
theorem FZ (s x:Operand) (S d:Nat) (C:Ext.va S d=false) (hp:Ext.pa S d=false):cU P call ops ⟨some d,.call ⟨.builtin .append,#[s,x],#[S,S]⟩,T,pos,aft,none⟩ st=cT (dS P st S (st.ev s) (st.ev x)) fun X =>
 some (((match X.1 with|some p=>st.gV p.1 p.2 none|none=>st).new d X.2).put (some d) (.own d (st.aJ d))):=QE s x S d #[S,S] rfl C qg
theorem aHY (s x:Operand) (S d:Nat) (C:Ext.va S d=false) (hp:Ext.pa S d=true) (M:¬(st.ev s=af/\(bA st (st.ev x)).map Prod.fst=some 0)):cU P call ops ⟨some d,.call ⟨.builtin .append,#[s,x],#[S,S]⟩,T,pos,aft,none⟩ st=cT (dS P st S (st.ev s) (st.ev x)) fun X =>
 some (((match X.1 with|some p=>st.gV p.1 p.2 none|none=>st).new d X.2).put (some d) (.own d (st.aJ d))):=QE s x S d #[S,S] rfl C (fun h=>M ⟨h.2.1,h.2.2.2⟩)
theorem aHZ (s x:Operand) (S d:Nat) (C:Ext.va S d=false) (hp:Ext.pa S d=true) (hi:(dD P S).isSome=true) (J:st.ev s=af) (h2:(bA st (st.ev x)).map Prod.fst=some 0):cU P call ops ⟨some d,.call ⟨.builtin .append,#[s,x],#[S,S]⟩,T,pos,aft,none⟩ st=some (st.put (some d) af):=by
 rw[eB];simp only[dU,iZ,cT,if_true,C,Bool.false_eq_true,if_false];rw[if_pos ⟨hp,J,hi,h2⟩];simp only[rI.apply];rfl
theorem U0 (s x:Operand) (S d:Nat) (C:Ext.va S d=true):cU P call ops ⟨some d,.call ⟨.builtin .append,#[s,x],#[S,S]⟩,T,pos,aft,none⟩ st=cT (lH P st S (st.ev s) (st.ev x)) fun u =>
 some ((st.gV u.1 u.2.1 (some u.2.2.1)).put (some d) (.vw u.1 u.2.1 0 u.2.2.2)):=by
 rw[eB];simp only[dU,iZ,cT,if_true,C];cases lH P st S (st.ev s) (st.ev x) with
 | none=>rfl
 | some u=>rfl
theorem j8 (x:Operand) (S:Nat):cU P call ops ⟨d,.call ⟨.builtin .clear,#[x],#[S]⟩,T,pos,aft,none⟩ st=cT (tC P st S (st.ev x)) fun u =>
 some ((match u with|some p=>st.gV p.1 p.2.1 (some p.2.2)|none=>st).put d (.cY [])):=by
 rw[eB];simp only[dU,iZ];cases tC P st S (st.ev x) with
 | none=>rfl
 | some u=>cases u<;>rfl
theorem aH0 (x:Value):st.ev (.const x)=.v x:=rfl
theorem aQk (t:Nat):st.ev (.tmp t)=st.env t:=rfl
theorem aLs (t d:Nat) (x:AV):(st.put (some d) x).env t=if t=d then x else st.env t:=rfl
theorem UT (t:Nat) (x:AV):(st.put none x).env t=st.env t:=rfl
theorem aLt (t d:Nat) (e:mH):(st.new d e).env t=st.env t:=rfl
theorem aH1 (t s g:Nat) (e:Option mH):(st.gV s g e).env t=st.env t:=rfl
theorem aLu (t:Nat) (d:Option Nat) (x:AV):(st.put d x).aJ t=st.aJ t:=jf
theorem TA (t d:Nat) (e:mH):(st.new d e).aJ t=if t=d then st.aJ d+1 else st.aJ t:=rfl
theorem Kv (t s g:Nat) (e:Option mH):(st.gV s g e).aJ t=st.aJ t:=rfl
theorem GB (s g:Nat) (d:Option Nat) (x:AV):(st.put d x).heap s g=st.heap s g:=jf
theorem Fy (s g d:Nat) (e:mH):(st.new d e).heap s g=if s=d/\g=st.aJ d then some e else st.heap s g:=rfl
theorem qV (s g D g0:Nat) (e:Option mH):(st.gV D g0 e).heap s g=if s=D/\g=g0 then e else st.heap s g:=rfl
theorem aH2 (t:Nat) (xs:List AV):(St.init xs).env t=(xs[t]?).getD (.v undef):=rfl
theorem aH3 (t:Nat) (xs:List AV):(St.init xs).aJ t=0:=rfl
theorem aDP (s g:Nat) (xs:List AV):(St.init xs).heap s g=none:=rfl
theorem aH4 (x:AV):st.put none x=st:=rfl
theorem Kz (d:Option Nat) (x:AV):({ dst:=d,val:=x }:rI).apply st=st.put d x:=rfl
theorem aDQ (d:Option Nat) (x:AV) (n:Nat) (e:mH):({ dst:=d,val:=x,new:=some (n,[e])}:rI).apply st=(st.new n e).put d x:=mV d x n e
theorem aDR (d:Option Nat) (x:AV) (s g:Nat) (e:Option mH):({ dst:=d,val:=x,dE:=some (s,g,e)}:rI).apply st=(st.gV s g e).put d x:=rfl
theorem UU (d:Option Nat) (x:AV) (s g n:Nat) (z:Option mH) (e:mH):({ dst:=d,val:=x,dE:=some (s,g,z),new:=some (n,[e])}:rI).apply st=((st.gV s g z).new n e).put d x:=Xj d x s g n z e
theorem aX {r:AV} (hf:∀x∈args,Flat x) (h:call g args=some r) (hr:Flat r):aO call g args st d=some { dst:=d,val:=r }:=by
 simp_all [aO,cT,jH]
theorem gA {d:Nat} (W:∀x∈args,Flat x) (h:call g args=some (.uniq e sz n cs)) :
 aO call g args st (some d)=some { dst:=some d,val:=.own d (st.aJ d),new:=some (d,[.row e sz n cs])}:=by
 unfold aO;rw[if_pos W,h];have:¬Flat (.uniq e sz n cs):=ym
 simp only[cT,jH,if_neg this];rfl
end
end Go.Ab
end
section
namespace Go.Ab
open Classical
variable {α β:Type} {l:List Bool} {st st':St} {s g sz f t:Nat} {x x1 x2 y1 Y:AV} {cs:List AV} {fn:Func} {G C:ResultVar} {d:Option Nat} {Inv:Nat->St->Prop} {Q:Ex->St->Prop}
abbrev bU:=Vector Int 32
abbrev oG:=Vector Int 4
def qY (x:Int):List AV:=[ac x]
def oF (x:Int):List AV:=[aa x]
def rZ (x:Bool):List AV:=[ae x]
def aW (r:bU):List AV:=r.toList.map fun x=>.v (.int .u8 x)
def fD (r:oG):List AV:=r.toList.map fun x=>ac x
@[simp] theorem tV (x:Int):(qY x).length=1:=rfl
@[simp] theorem wL (x:Int):(oF x).length=1:=rfl
@[simp] theorem xM (x:Bool):(rZ x).length=1:=rfl
@[simp] theorem iN (r:bU):(aW r).length=32:=by simp[aW]
@[simp] theorem sN (r:oG):(fD r).length=4:=by simp[fD]
theorem eA (x:Int):∀y∈qY x,Flat y:=by grind [qY,Flat.v]
theorem oD (x:Int):∀y∈oF x,Flat y:=by grind [oF,Flat.v]
theorem jR (x:Bool):∀y∈rZ x,Flat y:=by grind [rZ,Flat.v]
theorem dR (x:bU):∀y∈aW x,Flat y:=yl
theorem gM (x:oG):∀y∈fD x,Flat y:=yl
theorem Bx (x:Int):∀y∈qY x,cZ y:=by grind [qY,cZ.v]
def Gj (x:Int):∀y∈oF x,cZ y:=by grind [oF,cZ.v]
theorem Nb (x:Bool):∀y∈rZ x,cZ y:=by grind [rZ,cZ.v]
theorem vD (x:bU):∀y∈aW x,cZ y:=yl
theorem PE (x:oG):∀y∈fD x,cZ y:=yl
def Qo {α:Type} (c:α->List AV) (z:Nat) (R:∀a,(c a).length=z):∀(l:List α) (i:Nat) (h:i<l.length),rd (l.flatMap c) (i * z) z=c l[i]
 | [],i,h=>by simp at h
 | a :: l,0,h=>by grind [rd]
 | a :: l,i+1,h=>by
   have ih:=Qo c z R l i dr
   simp_all [rd,drop_append,drop_of_length_le,Nat.succ_mul]
theorem xN (a b:bU):aW a=aW b↔a=b:=by
 constructor
 ·intro h;unfold aW at h;have h2:a.toList=b.toList:=by
   have:=congrArg (List.map (fun x:AV=>match x with|.v (.int _ n)=>n|_=>0)) h
   simpa [map_map,Function.comp_def] using this
  exact Vector.toList_inj.1 h2
 ·intro h;rw[h]
theorem aDS (a b:oG):fD a=fD b↔a=b:=by
 constructor
 ·intro h;unfold fD at h;have h2:a.toList=b.toList:=by
   have:=congrArg (List.map (fun x:AV=>match x with|.v (.int _ n)=>n|_=>0)) h
   simpa [map_map,Function.comp_def] using this
  exact Vector.toList_inj.1 h2
 ·intro h;rw[h]
def dE (cs:List AV) (o:Nat) (xs:List AV) (e:Nat):List AV:=cs.take o++xs++cs.drop e
section
variable {a b xs:List AV} {n o o' e e' k:Nat}
theorem a5E (h:xs=b):a++xs=a++b:=yi
theorem aLv (h:o'=o+n) (ha:a.length=n):rd (a++b) o' k=rd b o k:=by
 simp_all [rd,drop_append,drop_of_length_le]
theorem Du (Y:a.length=n):rd a 0 n=a:=by
 subst Y;simp[rd]
theorem PO (h:o+k<=a.length):rd (a++b) o k=rd a o k:=by
 grind [rd]
theorem aG9 (h:o'=o+n) (ha:a.length=n):(a++b)[o']? = b[o]?:=by
 grind
theorem Wz (h:o<a.length):(a++b)[o]? = a[o]?:=getElem?_append_left h
theorem aBV (h:o'=o+n) (h':e'=e+n) (ha:a.length=n):dE (a++b) o' xs e'=a++dE b o xs e:=by
 simp_all [dE,take_append,take_of_length_le,drop_append]
theorem aKX (Y:a.length=n):dE (a++b) 0 xs n=xs++b:=by
 subst Y;simp[dE]
theorem Am (Y:a.length=n):dE a 0 xs n=xs:=by
 subst Y;simp[dE]
theorem E4 (h:o<=e/\e<=a.length):dE (a++b) o xs e=dE a o xs e++b:=by
 grind [dE]
end
theorem IC (a b:Int):qY a=qY b↔a=b:=by simp[qY]
def aH5 (a b:Int):oF a=oF b↔a=b:=by simp[oF]
theorem aDT (a b:Bool):rZ a=rZ b↔a=b:=by simp[rZ]
def bQ:bU:=Vector.replicate 32 0
def QF:oG:=Vector.replicate 4 0
def vC:List Value:=List.replicate 32 (.int .u8 0)
def ID:List Value:=List.replicate 4 (.int .u64 0)
def jO:vC.map AV.v=aW bQ:=by simp[vC,aW,bQ]
def kE:ID.map AV.v=fD QF:=by simp[ID,fD,QF]
def Kx:List Bool:=List.replicate 32 true
def aH6:List Bool:=List.replicate 4 true
def jZ {m:List Bool}:∀ {xs ys A C:List AV},mA l xs ys->mA m A C->mA (l++m) (xs++A) (ys++C):=by
 induction l with
 | nil=>intro xs ys A C h G;cases xs<;>cases ys<;>first|exact G|exact h.elim
 | cons b l ih =>
   intro xs ys A C h G
   cases b
   ·cases xs with
    | nil=>exact h.elim
    | cons x xs=>cases ys with
      | nil=>grind [mA]
      | cons y ys =>
        unfold mA at h;grind [mA]
   ·cases xs with
    | nil=>exact h.elim
    | cons x xs=>cases ys with
      | nil=>grind [mA]
      | cons y ys =>
        unfold mA at h;grind [mA]
def Hs (k:IntKind):∀(a b:List Int),a.length=b.length->mA (List.replicate a.length true) (a.map fun x=>.v (.int k x)) (b.map fun x=>.v (.int k x))
 | [],[],_=>trivial
 | [],_ :: _,h=>by simp at h
 | _ :: _,[],h=>by simp at h
 | a :: l,b :: m,h=>⟨rfl,Hs k l m dr⟩
def oY (a b:bU):mA Kx (aW a) (aW b):=by
 have:=Hs .u8 a.toList b.toList qe
 rw[Vector.length_toList] at this;exact this
def IE (a b:oG):mA aH6 (fD a) (fD b):=by
 have:=Hs .u64 a.toList b.toList qe
 rw[Vector.length_toList] at this;exact this
def E5 (P:Program) (T:Nat):Option (List (Nat × Nat)) :=
 match P.underlying T with
 | some (.struct M)=>if M.all (fun f=>(P.info? f.type).isSome) then some (M.toList.map fun f=>(f.offset,P.cellsOf f.type)) else none
 | _=>none
def E6 (P:Program) (T:Nat):Option Nat :=
 match P.underlying T with
 | some (.array _ e)=>if (P.info? e).isSome then some (P.cellsOf e) else none
 | _=>none
def fC {P:Program} {T:Nat} {l:List (Nat × Nat)} (h:E5 P T=some l):placeOf P T=some fun i=>l[i]?:=by
 grind [E5,placeOf]
def Zu {P:Program} {T k:Nat} (h:E6 P T=some k):placeOf P T=some fun i=>some (i * k,k):=by
 grind [E6,placeOf]
def iA {P:Program} {T:Nat} {parts:List (Nat × Operand)} {z:List Value} {place:Nat->Option (Nat × Nat)} {c:List AV} (R:eC P T=some z) (G:z.map AV.v=c) (hp:placeOf P T=some place) :
 wU P st T parts=if (parts.all fun p=>(st.ev p.2).lL)=true then (mP place c (parts.map fun p=>(p.1,st.ev p.2))).map .agg else none:=by
 simp only[wU,R,hp,G]
def yH (place:Nat->Option (Nat × Nat)) (c:List AV):mP place c []=some c:=rfl
def uY (place:Nat->Option (Nat × Nat)) (c:List AV) (i:Nat) (x:AV) (r:List (Nat × AV)):mP place c ((i,x) :: r)=cT (place i) fun os =>
 if x.cells.length=os.2/\os.1+os.2<=c.length then mP place (dE c os.1 x.cells (os.1+os.2)) r else none:=by
 simp only[mP];cases place i<;>rfl
def Lm {P:Program} {T:Nat} {xs ys:List AV} {p:Prop} [Decidable p] (hl:fG P 20 T=some l) (ha:dV P T=true) (hg:P.eqGuardType P.depth T=false) (hf:mA l xs ys) (hp:xs=ys↔p) :
 Im P T xs ys=some (decide p):=by
 grind [Im]
def rK (P:Program) (T:Nat):Option Nat :=
 match lJ P T with
 | some (_,k)=>some k
 | none=>none
def aDU {P:Program} {T o:Nat}:CO P st T (.ptr s g o) x=cT (rK P T) fun k=>if x.cells.length=k/\x.lL=true then
 (match st.heap s g with
  | some (.cells cs)=>if o+k<=cs.length then some (st.gV s g (some (.cells (dE cs o x.cells (o+k))))) else none
  | some (.row e sz n cs)=>if o+k<=cs.length then some (st.gV s g (some (.row e sz n (dE cs o x.cells (o+k))))) else none
  | _=>none) else none:=by
 simp only[CO,qW,rK];cases lJ P T with
 | none=>rfl
 | some A =>
   obtain⟨b,k⟩:=A
   simp only[cT];split
   ·split
    ·rename_i h;simp only[h];split<;>rfl
    ·rename_i h;simp only[h];split<;>rfl
    grind
   ·rfl
def E7 (s:bU):rd (aW s) 0 32=aW s:=Du (iN _)
def E9 (s x:bU):dE (aW s) 0 (aW x) 32=aW x:=Am (iN _)
def F0 (s:oG):rd (fD s) 0 4=fD s:=Du (sN _)
def F1 (s x:oG):dE (fD s) 0 (fD x) 4=fD x:=Am (sN _)
theorem wrap_i64 (x:Int) (h1:-9223372036854775808<=x) (h2:x<=9223372036854775807):i64.wrap x=x:=by
 rw[IntKind.wrap_i64];omega
def yY (k : Nat) (h : (k : Int) < 9223372036854775807 := by omega) : (0 : Int) <= k /\ i64.wrap ((k : Int) + 1) = ((k + 1 : Nat) : Int) := ⟨WF, by rw [wrap_i64 _ WF WF]; omega⟩
theorem qG (s g:Nat):¬Flat (.own s g):=ym
theorem sQ (s g o:Nat):¬Flat (.ptr s g o):=ym
theorem cV (h:Flat x):eE st x=some x:=by unfold eE;rw[if_pos h]
theorem lR {e n:Nat} (h:st.heap s g=some (.row e sz n cs)) (hf:∀c∈cs,Flat c):cO st (.own s g)=some (.sl n cs):=by
 grind [cO,qG]
def bY (h:Flat x):cO st x=some x:=by unfold cO;rw[if_pos h]
def p8 (h:Flat x):sS st x=some x:=by unfold sS;rw[if_pos h]
theorem Ln {st:St}:∀ {cs:List AV},(∀c∈cs,Flat c)->bM (cs.map (sS st))=some cs
 | [],_=>rfl
 | c :: cs,h=>by
   rw[map_cons,p8 (h c qe)]
   have ih:=Ln (st:=st) (cs:=cs) fun d l=>h d (mem_cons_of_mem _ l)
   grind [bM]
def Z9 {o:Nat} (h:st.heap s g=some (.cells cs)):cO st (.ptr s g o)=(bM (cs.map (sS st))).map fun ds=>.ip ds o:=by
 grind [cO,sQ]
theorem aDV {o:Nat} (h:st.heap s g=some (.cells cs)) (W:∀c∈cs,Flat c):cO st (.ptr s g o)=some (.ip cs o):=by
 rw[Z9 h,Ln W];rfl
theorem Bz {e n:Nat} (h:st.heap s g=some (.row e sz n cs)) (hf:∀c∈cs,Flat c):eE st (.own s g)=some (.sl n cs):=by
 grind [eE,qG,lR]
def Tk {o:Nat} (h:st.heap s g=some (.cells cs)) (hf:∀c∈cs,Flat c):eE st (.ptr s g o)=some (.ip cs o):=by
 grind [eE,sQ,aDV]
section
variable [Ext]
theorem Bo {P:Program} {e:Ex} (R:Ext.oM f=false) (he:e=.ret\/e=.normal) (X:fn.results.toList=[.tmp t]) (N:st.env t=x) (W:Flat x):wY P f fn (e,st)=some x:=by
 have J:kJ P f fn st=some x:=by
  unfold kJ;rw[R,if_neg qe]
  unfold xR;rw[X];simp only[jP,cT,N,Yr];cases W<;>simp only[eE]<;>rw[if_pos]<;>constructor<;>assumption
 rcases he with rfl|rfl<;>exact J
theorem aDW {P:Program} {T:Nat} {y:AV} {e:Ex} (R:Ext.oM f=false) (he:e=.ret\/e=.normal) (X:fn.results.toList=[.cell t T]) (Y:st.env t=y) (N:Fp P st T y=some x) (W:Flat x):wY P f fn (e,st)=some x:=by
 have J:kJ P f fn st=some x:=by
  unfold kJ;rw[R,if_neg qe]
  unfold xR;rw[X];show cT (cT (rM st (st.env t)) (zX P T)) (Yr st)=some x
  rw[Y,Ur,N];simp only[cT,Yr];cases W<;>simp only[eE]<;>rw[if_pos]<;>constructor<;>assumption
 rcases he with rfl|rfl<;>exact J
theorem Ki {P:Program} {e:Ex} {e' n:Nat} (hk:Ext.oM f=false) (he:e=.ret\/e=.normal) (hr:fn.results.toList=[.tmp t]) (hx:st.env t=.own s g) (hh:st.heap s g=some (.row e' sz n cs)) (hf:∀c∈cs,Flat c):wY P f fn (e,st)=some (.uniq e' sz n cs):=by
 have J:kJ P f fn st=some (.uniq e' sz n cs):=by
  grind [kJ,xR,jP,cT,Yr]
 rcases he with rfl|rfl<;>exact J
theorem aAa {P:Program} {T:Nat} {e:Ex} {z:AV} {y:AV} (R:Ext.oM f=false) (he:e=.ret\/e=.normal) (X:fn.results.toList=[.cell t T]) (hz:st.env t=z) (hx:Fp P st T z=some (.agg cs)) (hy:eE st (.agg cs)=some y):wY P f fn (e,st)=some y:=by
 have J:kJ P f fn st=some y:=by
  unfold kJ;rw[R,if_neg qe]
  unfold xR;rw[X];show cT (cT (rM st (st.env t)) (zX P T)) (Yr st)=some y
  grind [Ur,cT,Yr]
 rcases he with rfl|rfl<;>exact J
def bC (P:Program) (st:St) (r:ResultVar):Option AV :=
 match r with
 | .tmp t=>some (st.env t)
 | .cell t T=>Fp P st T (st.env t)
theorem pF (P:Program) (st:St) (r:ResultVar):jP P st r=bC P st r:=by
 cases r with
 | tmp t=>rfl
 | cell t T=>exact Ur P st T _
theorem Ts {P:Program} {e:Ex} (hk:Ext.oM f=false) (he:e=.ret\/e=.normal) (hr:fn.results.toList=[G,C])
 (h1:bC P st G=some x1) (h2:bC P st C=some x2) (e1:eE st x1=some y1) (e2:eE st x2=some Y):wY P f fn (e,st)=some (.cY [y1,Y]):=by
 have h:kJ P f fn st=some (.cY [y1,Y]):=by
  simp_all [kJ,xR,pF,cT,bM,GZ]
 rcases he with rfl|rfl<;>exact h
theorem aDX {P:Program} {e:Ex} (hk:Ext.oM f=false) (he:e=.ret\/e=.normal) (hr:fn.results.toList=[G,C])
 (h1:bC P st G=some x1) (h2:bC P st C=some x2) (e0:eE st x1=none) (A:Rr st x1=some y1) (e2:eE st x2=some Y):wY P f fn (e,st)=some (.cY [y1,Y]):=by
 have e1':Eu st x1=some y1:=(X3 e0).trans A
 have h:kJ P f fn st=some (.cY [y1,Y]):=by
  simp_all [kJ,xR,pF,cT,bM,GZ]
 rcases he with rfl|rfl<;>exact h
theorem GR {P:Program} {e:Ex} {D:ResultVar} {x3 l:AV} (hk:Ext.oM f=false) (he:e=.ret\/e=.normal) (hr:fn.results.toList=[G,C,D])
 (h1:bC P st G=some x1) (h2:bC P st C=some x2) (h3:bC P st D=some x3) (e1:eE st x1=some y1) (e2:eE st x2=some Y) (e3:eE st x3=some l):wY P f fn (e,st)=some (.cY [y1,Y,l]):=by
 have h:kJ P f fn st=some (.cY [y1,Y,l]):=by
  simp_all [kJ,xR,pF,cT,bM,GZ]
 rcases he with rfl|rfl<;>exact h
end
section
variable [Ext]
theorem aDY {P:Program} (c:Operand) (a b:Code) (st:St):wP P (.cond c a b) st=ab (st.ev c) fun t=>if t=true then wP P a st else wP P b st:=by
 cases h:st.ev c with
 | v x =>
   cases x with
   | bool t=>exact aHO P c a b st h
   | _ =>
     apply Option.ext
     intro r;rw[aB6];constructor
     ·rintro⟨n,m,G⟩
      cases m<;>grind [xZ]
     ·intro G;simp[ab] at G
 | _ =>
   apply Option.ext
   intro r;rw[aB6];constructor
   ·rintro⟨n,m,G⟩
    cases m<;>grind [xZ]
   ·intro G;simp[ab] at G
def tv (ops:Array Oper) (j:Nat):Option Nat:=(ops[j]?).bind (·.dst)
def di (x:AV) (want:Bool) (y n:Option α):Option α :=
 match x with
 | .v (.bool b)=>if b=want then y else n
 | .v _=>n
 | _=>none
def il (d:Option Nat) (k:Nat->Option α) (n:Option α):Option α :=
 match d with
 | some d=>k d
 | none=>n
@[congr] theorem aQl {x':AV} {want:Bool} {y n:Option α} (h:x=x'):di x want y n=di x' want y n:=yi
@[congr] theorem aSY {G:Option Nat} {k:Nat->Option α} {n:Option α} (h:d=G):il d k n=il G k n:=yi
theorem aDZ (b:Bool) (y n:Option α):di (ae b) true y n=if b=true then y else n:=rfl
theorem aAc (b:Bool) (y n:Option α):di (ae b) false y n=if b=false then y else n:=rfl
theorem aAd (w:Bool) (y n:Option α):di (.v undef) w y n=n:=rfl
theorem aH7 (d:Nat) (k:Nat->Option α) (n:Option α):il (some d) k n=k d:=rfl
theorem aD0 {P:Program} {call:Nat->List AV->Option AV} {ops:Array Oper} {T:Nat} {pos:String} {aft:Array Edge} (op:Op) (j:Nat) (want:Bool) :
 cU P call ops ⟨d,op,T,pos,aft,some (j,want)⟩ st=il (tv ops j) (fun s=>di (st.env s) want (cU P call ops ⟨d,op,T,pos,aft,none⟩ st) (some (st.put d (.v undef)))) (some (st.put d (.v undef))):=by
 simp only[cU,gv,tv];cases (ops[j]?).bind (·.dst) with
 | none=>simp[il]
 | some s =>
   simp only[il];cases st.env s<;>grind [di,dU]
end
section
variable {P:Program} {T:Nat} {k k1:IntKind} {a b:Int}
theorem aLw:jS P .add T (.v (.int k a)) (.v (.int k b))=some (.v (.int k (k.wrap (a+b)))):=vt
theorem aLx:jS P .sub T (.v (.int k a)) (.v (.int k b))=some (.v (.int k (k.wrap (a-b)))):=vt
theorem aLy:jS P .mul T (.v (.int k a)) (.v (.int k b))=some (.v (.int k (k.wrap (a * b)))):=vt
theorem aLz:jS P .and T (.v (.int k a)) (.v (.int k b))=some (.v (.int k (k.wrap (BitVec.ofInt k.bits a &&& BitVec.ofInt k.bits b).toNat))):=vt
theorem aLA:jS P .eql T (.v (.int k a)) (.v (.int k b))=some (ae (a == b)):=vt
theorem aLB:jS P .neq T (.v (.int k a)) (.v (.int k b))=some (ae (a != b)):=vt
theorem aLC:jS P .lss T (.v (.int k a)) (.v (.int k b))=some (ae (decide (a<b))):=vt
theorem aLD:jS P .leq T (.v (.int k a)) (.v (.int k b))=some (ae (decide (a<=b))):=vt
theorem aLE:jS P .gtr T (.v (.int k a)) (.v (.int k b))=some (ae (decide (a > b))):=vt
theorem aLF:jS P .geq T (.v (.int k a)) (.v (.int k b))=some (ae (decide (a>=b))):=vt
theorem aLG (h:b≠0):jS P .quo T (.v (.int k a)) (.v (.int k b))=some (.v (.int k (k.wrap (a.tdiv b)))):=by simp[jS,h]
theorem aLH (h:b≠0):jS P .rem T (.v (.int k a)) (.v (.int k b))=some (.v (.int k (a.tmod b))):=by simp[jS,h]
theorem aLI (h:¬b<0):jS P .shr T (.v (.int k a)) (.v (.int k1 b))=some (.v (.int k (a.fdiv (2 ^ (min b.toNat k.bits))))):=by simp[jS,h]
theorem aBI (h:¬b<0):jS P .shl T (.v (.int k a)) (.v (.int k1 b))=some (.v (.int k (k.wrap (a * 2 ^ (min b.toNat k.bits))))):=by simp[jS,h]
end
def UW (s:St) (k:St->Option (Ex × St)):HZ (.normal,s) k=k s:=rfl
def aD1 (s:St) (k:St->Option (Ex × St)):HZ (.ret,s) k=some (.ret,s):=rfl
def aAe (i:Nat) (s:St) (k:St->Option (Ex × St)):HZ (.exit i,s) k=some (.exit i,s):=rfl
def Qa (r:bU) (i e:Nat) (x:Int) (h:i<32) (he:e=i+1):dE (aW r) i [.v (.int .u8 x)] e=aW (r.set i x):=by
 grind [dE,aW,Vector.toList_set,map_set,set_eq_take_append_cons_drop]
def Br (r:oG) (i e:Nat) (x:Int) (h:i<4) (he:e=i+1):dE (fD r) i [ac x] e=fD (r.set i x):=by
 grind [dE,fD,Vector.toList_set,map_set,set_eq_take_append_cons_drop]
def Nh [Ext] {P:Program} {b:Code} (Inv:Nat->St->Prop) (Q:Ex->St->Prop)
 (step:∀n st,Inv n st->∃e st',wP P b st=some (e,st')/\((e=.normal/\∃m,m<n/\Inv m st')\/(e≠.normal/\Q e st'))):∀n st,Inv n st->∃e st',wP P (.loop b) st=some (e,st')/\e≠.normal/\Q e st':=by
 intro n;induction n using Nat.strongRecOn with
 | _ n S =>
   intro st h;obtain⟨e,s1,J,h2⟩:=step n st h
   rw[Ll,J];rcases h2 with ⟨rfl,m,hm,hi⟩|⟨mC,N⟩
   ·exact S m hm s1 hi
   ·refine⟨e,s1, ?_,mC,N⟩
    cases e with
    | normal=>grind
    | _=>rfl
def gL [Ext] {P:Program} {b:Code} {k:Ex × St->Option β} {r:β} (Inv:Nat->St->Prop) (Q:Ex->St->Prop) (n:Nat)
 (step:∀n st,Inv n st->∃e st',wP P b st=some (e,st')/\((e=.normal/\∃m,m<n/\Inv m st')\/(e≠.normal/\Q e st')))
 (start:Inv n st) (rest:∀e st',Q e st'->k (e,st')=some r):cT (wP P (.loop b) st) k=some r:=by
 obtain⟨e,s1,J,h2,S⟩:=Nh Inv Q step n st start
 rw[J];exact rest e s1 S
def bP [Ext] {P:Program} {b:Code} {k:Ex × St->Option β} {R:β->Prop} (Inv:Nat->St->Prop) (Q:Ex->St->Prop) (n:Nat)
 (step:∀n st,Inv n st->∃e st',wP P b st=some (e,st')/\((e=.normal/\∃m,m<n/\Inv m st')\/(e≠.normal/\Q e st')))
 (start:Inv n st) (rest:∀e st',Q e st'->∃r,k (e,st')=some r/\R r):∃r,cT (wP P (.loop b) st) k=some r/\R r:=by
 obtain⟨e,s1,J,h2,S⟩:=Nh Inv Q step n st start
 rw[J];exact rest e s1 S
def lS {A:Type} (x:Option α) (f:α->Option β) (g:β->Option A):cT (cT x f) g=cT x fun a=>cT (f a) g:=by cases x<;>rfl
def Bp [Ext] {P:Program} {b:Code} {n:Nat} (h:wP P b st=some (.normal,st')) (m:Nat) (hm:m<n) (hi:Inv m st') :
 ∃e st',wP P b st=some (e,st')/\((e=.normal/\∃m,m<n/\Inv m st')\/(e≠.normal/\Q e st')):=⟨_,_,h,.inl ⟨rfl,m,hm,hi⟩⟩
def aFR [Ext] {P:Program} {b:Code} {e:Ex} {n:Nat} (h:wP P b st=some (e,st')) (he:e≠.normal) (N:Q e st') :
 ∃e st',wP P b st=some (e,st')/\((e=.normal/\∃m,m<n/\Inv m st')\/(e≠.normal/\Q e st')):=⟨_,_,h,.inr ⟨he,N⟩⟩
def aH (l:List Int):List AV:=l.flatMap oF
@[simp] theorem Bb (l:List (Int)):(aH l).length=l.length * 1:=by
 induction l with
 | nil=>rfl
 | cons x l ih=>simp only[aH,flatMap_cons,length_append,wL,length_cons] at *;omega
theorem eP (l:List (Int)):∀x∈aH l,Flat x:=by
 intro x N;obtain⟨y,_,Y⟩:=mem_flatMap.1 N
 exact oD y x Y
def aH8 (l:List (Int)) (i:Nat) (h:i<l.length):rd (aH l) (i * 1) 1=oF l[i]:=Qo oF 1 (wL) l i h
def bD (l:List Int):List AV:=l.flatMap qY
@[simp] theorem PC (l:List (Int)):(bD l).length=l.length * 1:=by
 induction l with
 | nil=>rfl
 | cons x l ih=>simp only[bD,flatMap_cons,length_append,tV,length_cons] at *;omega
theorem fB (l:List (Int)):∀x∈bD l,Flat x:=by
 intro x N;obtain⟨y,_,Y⟩:=mem_flatMap.1 N
 exact eA y x Y
def fN (l:List bU):List AV:=l.flatMap aW
@[simp] theorem GN (l:List (bU)):(fN l).length=l.length * 32:=by
 induction l with
 | nil=>rfl
 | cons x l ih=>simp only[fN,flatMap_cons,length_append,iN,length_cons] at *;omega
def La (l:List (bU)):∀x∈fN l,Flat x:=by
 intro x N;obtain⟨y,_,Y⟩:=mem_flatMap.1 N
 exact dR y x Y
section
variable {a b xs:List AV} {o e k:Nat}
theorem lh (h:a.length<=o):rd (a++b) o k=rd b (o-a.length) k:=aLv WF rfl
theorem lj (h:a.length=k):rd a 0 k=a:=Du h
theorem ll (h:a.length<=o):(a++b)[o]? = b[o-a.length]?:=getElem?_append_right h
theorem lu (h:a.length<=o/\o<=e):dE (a++b) o xs e=a++dE b (o-a.length) xs (e-a.length):=aBV WF WF rfl
theorem lv (h:a.length=e):dE a 0 xs e=xs:=Am h
end
structure dH where
 aG:Int
 root:bU
def bI (s:dH):List AV:=qY s.aG++(aW s.root)
abbrev ag (s:dH):AV:=.agg (bI s)
@[simp] theorem nX (s:dH):(bI s).length=33:=by simp[bI]
theorem cM (s:dH):∀x∈bI s,Flat x:=by
 grind [bI,eA,dR]
theorem Nl (s:dH):∀x∈bI s,cZ x:=by
 grind [bI,Bx,vD]
def IF (s:dH):(bI s)[0]? = some (ac s.aG):=rfl
def rqC {P:Prop} (h:P:=by simp only[lh,PO,lj,ll,Wz,lu,E4,lv,bI,qY,oF,rZ,iN,sN,length_append,length_cons,length_nil,getElem?_cons_zero,and_self,seval]):P:=h
def MG (s:dH) (x:Int):dE (bI s) 0 ([ac x]) 1=bI { s with aG:=x }:=rqC
def UX (s:dH):rd (bI s) 1 32=aW s.root:=rqC
def UY (s:dH) (x:bU):dE (bI s) 1 (aW x) 33=bI { s with root:=x }:=rqC
def dO:dH:=⟨0,bQ⟩
def Di:List Value:=[.int .u64 0]++(vC)
def Ae:Di.map AV.v=bI dO:=by simp only[Di,map_append,map_cons,map_nil,jO,kE];rfl
def QG:List Bool:=[true]++(Kx)
def Ci (a b:dH):mA QG (bI a) (bI b):=(jZ (show mA [true] [_] [_] from ⟨rfl,trivial⟩) (oY _ _))
theorem uX (a b:dH):bI a=bI b↔a=b:=by
 refine⟨fun h=>?_,fun h=>yi⟩
 cases a;cases b
 simp only[bI] at h;obtain⟨h0,h⟩:=append_inj h qe
 grind [IC,xN]
def F2 (s:dH):rd (bI s) 0 33=bI s:=Du (nX _)
def F3 (s x:dH):dE (bI s) 0 (bI x) 33=bI x:=Am (nX _)
structure qF where
 pj:dH
 pf:dH
def eI (s:qF):List AV:=bI s.pj++(bI s.pf)
@[simp] theorem Lo (s:qF):(eI s).length=66:=by simp[eI]
theorem Ac (s:qF):∀x∈eI s,Flat x:=by
 grind [eI,cM]
theorem F4 (s:qF):∀x∈eI s,cZ x:=by
 grind [eI,Nl]
def iq {P:Prop} (h:P:=by simp only[lh,PO,lj,ll,Wz,lu,E4,lv,bI,eI,qY,oF,rZ,iN,sN,length_append,length_cons,length_nil,getElem?_cons_zero,and_self,seval]):P:=h
def UZ (s:qF):rd (eI s) 0 33=bI s.pj:=iq
def VA (s:qF) (x:dH):dE (eI s) 0 (bI x) 33=eI { s with pj:=x }:=iq
def Oc (s:qF):(eI s)[0]? = some (ac s.pj.aG):=iq
def VB (s:qF):rd (eI s) 33 33=bI s.pf:=iq
def VC (s:qF) (x:dH):dE (eI s) 33 (bI x) 66=eI { s with pf:=x }:=iq
def Od (s:qF):(eI s)[33]? = some (ac s.pf.aG):=iq
def Ha:qF:=⟨dO,dO⟩
def Us:List Value:=Di++(Di)
def Xo:Us.map AV.v=eI Ha:=by simp only[Us,map_append,map_cons,map_nil,jO,kE,Ae];rfl
def aB9:List Bool:=QG++(QG)
def VD (a b:qF):mA aB9 (eI a) (eI b):=(jZ (Ci _ _) (Ci _ _))
theorem F5 (a b:qF):eI a=eI b↔a=b:=by
 refine⟨fun h=>?_,fun h=>yi⟩
 cases a;cases b
 simp only[eI] at h;obtain⟨h0,h⟩:=append_inj h qe
 grind [uX]
def MH (s:qF):rd (eI s) 0 66=eI s:=Du (Lo _)
def MJ (s x:qF):dE (eI s) 0 (eI x) 66=eI x:=Am (Lo _)
structure Block where
 dA:qF
 slot:Int
 root:bU
 parent:bU
 eQ:bU
 diff:oG
 Yx:oG
 dX:dH
 fin:dH
 oU:Bool
def aY (s:Block):List AV:=eI s.dA++(qY s.slot++(aW s.root++(aW s.parent++(aW s.eQ++(fD s.diff++(fD s.Yx++(bI s.dX++(bI s.fin++(rZ s.oU)))))))))
abbrev ah (s:Block):AV:=.agg (aY s)
@[simp] theorem jQ (s:Block):(aY s).length=238:=by simp[aY]
theorem yR (s:Block):∀x∈aY s,Flat x:=by
 intro x N;simp only[aY,mem_append,mem_singleton] at N;grind [Ac,eA,dR,gM,cM,jR]
def U1 (s:Block):∀x∈aY s,cZ x:=by
 intro x N;simp only[aY,mem_append] at N;grind [F4,Bx,vD,PE,Nl,Nb]
def Ut {P:Prop} (h:P:=by simp only[lh,PO,lj,ll,Wz,lu,E4,lv,bI,eI,aY,qY,oF,rZ,iN,sN,length_append,length_cons,length_nil,getElem?_cons_zero,and_self,seval]):P:=h
def AS (s:Block) (x:qF):dE (aY s) 0 (eI x) 66=aY { s with dA:=x }:=Ut
def Qp (s:Block):rd (aY s) 0 33=bI s.dA.pj:=Ut
def Qq (s:Block) (x:dH):dE (aY s) 0 (bI x) 33=aY { s with dA:={ s.dA with pj:=x }}:=Ut
def Cs (s:Block):(aY s)[0]? = some (ac s.dA.pj.aG):=Ut
def En (s:Block) (x:Int):dE (aY s) 0 ([ac x]) 1=aY { s with dA:={ s.dA with pj:={ s.dA.pj with aG:=x }} }:=Ut
def Qr (s:Block):rd (aY s) 33 33=bI s.dA.pf:=Ut
def Qs (s:Block) (x:dH):dE (aY s) 33 (bI x) 66=aY { s with dA:={ s.dA with pf:=x }}:=Ut
def Ct (s:Block):(aY s)[33]? = some (ac s.dA.pf.aG):=Ut
def IG (s:Block):(aY s)[66]? = some (ac s.slot):=Ut
def MK (s:Block) (x:Int):dE (aY s) 66 ([ac x]) 67=aY { s with slot:=x }:=Ut
def ML (s:Block):rd (aY s) 67 32=aW s.root:=Ut
def MM (s:Block) (x:bU):dE (aY s) 67 (aW x) 99=aY { s with root:=x }:=Ut
def AT (s:Block):rd (aY s) 99 32=aW s.parent:=Ut
def AU (s:Block) (x:bU):dE (aY s) 99 (aW x) 131=aY { s with parent:=x }:=Ut
def Xp (s:Block):rd (aY s) 131 32=aW s.eQ:=Ut
def Xq (s:Block) (x:bU):dE (aY s) 131 (aW x) 163=aY { s with eQ:=x }:=Ut
def MN (s:Block):rd (aY s) 163 4=fD s.diff:=Ut
def MO (s:Block) (x:oG):dE (aY s) 163 (fD x) 167=aY { s with diff:=x }:=Ut
def II (s:Block):rd (aY s) 167 4=fD s.Yx:=Ut
def IJ (s:Block) (x:oG):dE (aY s) 167 (fD x) 171=aY { s with Yx:=x }:=Ut
def MP (s:Block):rd (aY s) 171 33=bI s.dX:=Ut
def MQ (s:Block) (x:dH):dE (aY s) 171 (bI x) 204=aY { s with dX:=x }:=Ut
def Lp (s:Block):(aY s)[171]? = some (ac s.dX.aG):=Ut
def VE (s:Block):rd (aY s) 204 33=bI s.fin:=Ut
def VF (s:Block) (x:dH):dE (aY s) 204 (bI x) 237=aY { s with fin:=x }:=Ut
def Oe (s:Block):(aY s)[204]? = some (ac s.fin.aG):=Ut
def Uu (s:Block) (x:bU):dE (aY s) 205 (aW x) 237=aY { s with fin:={ s.fin with root:=x }}:=Ut
def Xr (s:Block):(aY s)[237]? = some (ae s.oU):=Ut
def AW (s:Block) (x:Bool):dE (aY s) 237 ([ae x]) 238=aY { s with oU:=x }:=Ut
def gQ:Block:=⟨Ha,0,bQ,bQ,bQ,QF,QF,dO,dO,false⟩
def Py:List Value:=Us++([.int .u64 0]++(vC++(vC++(vC++(ID++(ID++(Di++(Di++([.bool false])))))))))
def Uv:Py.map AV.v=aY gQ:=by simp only[Py,map_append,map_cons,map_nil,jO,kE,Xo,Ae];rfl
def aAf:List Bool:=aB9++([true]++(Kx++(Kx++(Kx++(aH6++(aH6++(QG++(QG++([false])))))))))
def Zv (a b:Block):mA aAf (aY a) (aY b):=(jZ (VD _ _) (jZ (show mA [true] [_] [_] from ⟨rfl,trivial⟩) (jZ (oY _ _) (jZ (oY _ _) (jZ (oY _ _) (jZ (IE _ _) (jZ (IE _ _) (jZ (Ci _ _) (jZ (Ci _ _) (show mA [false] [_] [_] from trivial))))))))))
def aAg (a b:Block):aY a=aY b↔a=b:=by
 refine⟨fun h=>?_,fun h=>yi⟩
 cases a;cases b
 simp only[aY] at h;obtain⟨h0,h⟩:=append_inj h qe
 obtain⟨h1,h⟩:=append_inj h qe
 obtain⟨h2,h⟩:=append_inj h qe
 obtain⟨h3,h⟩:=append_inj h qe
 obtain⟨h4,h⟩:=append_inj h qe
 obtain⟨h5,h⟩:=append_inj h qe
 obtain⟨h6,h⟩:=append_inj h qe
 obtain⟨h7,h⟩:=append_inj h qe
 obtain⟨h8,h⟩:=append_inj h qe
 grind [F5,IC,xN,aDS,uX,aDT]
def VG (s:Block):rd (aY s) 0 238=aY s:=Du (jQ _)
def VH (s x:Block):dE (aY s) 0 (aY x) 238=aY x:=Am (jQ _)
structure Node where
 block:Block
 up:Int
 status:Int
def gC (s:Node):List AV:=aY s.block++(oF s.up++(oF s.status))
@[simp] theorem vG (s:Node):(gC s).length=240:=by simp[gC]
theorem Qt (s:Node):∀x∈gC s,Flat x:=by
 grind [gC,yR,oD]
def F6 {P:Prop} (h:P:=by simp only[lh,PO,lj,ll,Wz,lu,E4,lv,bI,eI,aY,gC,qY,oF,rZ,iN,sN,length_append,length_cons,length_nil,getElem?_cons_zero,and_self,seval]):P:=h
def MS (s:Node):rd (gC s) 0 238=aY s.block:=F6
def MT (s:Node) (x:Block):dE (gC s) 0 (aY x) 238=gC { s with block:=x }:=F6
def Lq (s:Node):rd (gC s) 0 66=eI s.block.dA:=F6
def Gk (s:Node):rd (gC s) 0 33=bI s.block.dA.pj:=F6
def xO (s:Node):(gC s)[0]? = some (ac s.block.dA.pj.aG):=F6
def Gl (s:Node):rd (gC s) 33 33=bI s.block.dA.pf:=F6
def xP (s:Node):(gC s)[33]? = some (ac s.block.dA.pf.aG):=F6
def Of (s:Node):(gC s)[66]? = some (ac s.block.slot):=F6
def Qu (s:Node):rd (gC s) 67 32=aW s.block.root:=F6
def Lr (s:Node):rd (gC s) 99 32=aW s.block.parent:=F6
def Jh (s:Node):rd (gC s) 131 32=aW s.block.eQ:=F6
def Qv (s:Node):rd (gC s) 171 33=bI s.block.dX:=F6
def Uw (s:Node):rd (gC s) 204 33=bI s.block.fin:=F6
def F7 (s:Node):(gC s)[238]? = some (aa s.up):=F6
def aAh (s:Node) (x:Int):dE (gC s) 238 ([aa x]) 239=gC { s with up:=x }:=F6
def Iz (s:Node):(gC s)[239]? = some (aa s.status):=F6
def Ls (s:Node) (x:Int):dE (gC s) 239 ([aa x]) 240=gC { s with status:=x }:=F6
def tw:Node:=⟨gQ,0,0⟩
def F9:List Value:=Py++([.int .i64 0]++([.int .i64 0]))
def VI:F9.map AV.v=gC tw:=by simp only[F9,map_append,map_cons,map_nil,jO,kE,Uv];rfl
def aYf:List Bool:=aAf++([true]++([true]))
def aAi (a b:Node):mA aYf (gC a) (gC b):=(jZ (Zv _ _) (jZ (show mA [true] [_] [_] from ⟨rfl,trivial⟩) (show mA [true] [_] [_] from ⟨rfl,trivial⟩)))
def G0 (s:Node):rd (gC s) 0 240=gC s:=Du (vG _)
def G1 (s x:Node):dE (gC s) 0 (gC x) 240=gC x:=Am (vG _)
def bS (l:List Node):List AV:=l.flatMap gC
@[simp] theorem Qw (l:List (Node)):(bS l).length=l.length * 240:=by
 induction l with
 | nil=>rfl
 | cons x l ih=>simp only[bS,flatMap_cons,length_append,vG,length_cons] at *;omega
theorem iG (l:List (Node)):∀x∈bS l,Flat x:=by
 intro x N;obtain⟨y,_,Y⟩:=mem_flatMap.1 N
 exact Qt y x Y
def aD2 (l:List (Node)) (i:Nat) (h:i<l.length):rd (bS l) (i * 240) 240=gC l[i]:=Qo gC 240 (vG) l i h
structure Tree where
 nodes:List Node
def bN (s:Tree):List AV:=[.sl s.nodes.length (bS s.nodes)]
abbrev ak (s:Tree):AV:=.agg (bN s)
@[simp] theorem Xs (s:Tree):(bN s).length=1:=by simp[bN]
def aAj (s:Tree):∀x∈bN s,Flat x:=by
 grind [bN,Flat.sl,iG]
def IK (s:Tree):(bN s)[0]? = some (.sl s.nodes.length (bS s.nodes)):=rfl
def G2 (s:Tree):rd (bN s) 0 1=bN s:=Du (Xs _)
def G3 (s x:Tree):dE (bN s) 0 (bN x) 1=bN x:=Am (Xs _)
end Go.Ab
end
