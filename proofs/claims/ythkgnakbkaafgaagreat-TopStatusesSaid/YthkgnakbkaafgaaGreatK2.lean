/-
  Part 2 of the proof: an evaluator of programs, its soundness, and what functions of this program compute.
-/
import Derived.Test.YthkgnakbkaafgaaGreatK1
import Derived.MapKept
set_option linter.all false
set_option maxRecDepth 20000
set_option maxHeartbeats 40000000
open List
noncomputable section
section
namespace Go.Ab
open Classical
variable {agg:Bool} {l:List Bool} {us vs:List Value} {k T:Nat} {x z:AV} {C:Ctx} {u mv:Value}
section
variable {P:Program}
def zU (x:Value):List MapEntry->Nat->Option (Nat × Value)
 | [],_=>none
 | e :: r,i=>if x=e.key then some (i,e.val) else zU x r (i+1)
theorem mk_inj (h:gE l us vs) (Y:agg=false->l.length=1):mk agg us=mk agg vs↔us=vs:=by
 cases agg with
 | true=>simp[mk]
 | false =>
   have h1:=Y rfl
   obtain⟨e1,e2⟩:=lV _ _ _ h
   grind [length_eq_one_iff,mk]
theorem AP (w:World) (W:fG P 20 k=some l) (h:gE l us vs) :
 (Op.equal k (mk (dV P k) us) (mk (dV P k) vs)).run P w=.ok (decide (mk (dV P k) us=mk (dV P k) vs)) w:=by
 have:=Dx (P:=P) 20 10000 WF w k l W us vs h
 grind [Op.equal,Op.maxDepth,mk_inj,pJ]
def aHc (P:Program) (k:Nat) (l:List Bool) (us:List Value) (es:List MapEntry):Prop:=∀e∈es,∃vs,e.key=mk (dV P k) vs/\gE l us vs
theorem Ld (w:World) {k:Nat} {l:List Bool} {us:List Value} (W:fG P 20 k=some l):∀(es:List MapEntry) (i:Nat),aHc P k l us es ->
 (Instr.findAsking k (mk (dV P k) us) es i).run P w=.ok (zU (mk (dV P k) us) es i) w
 | [],i,_=>by simp[Instr.findAsking,zU]
 | e :: es,i,h=>by
   obtain⟨vs,R,C⟩:=h e qe
   have ih:=Ld w W es (i+1) (fun x N=>h x bw)
   have he:=AP w W C
   simp only[Instr.findAsking,R,Sem.run_bind,he,Result.andThen_ok,zU];by_cases hq:mk (dV P k) us=mk (dV P k) vs
   all_goals simp_all
theorem Zj {q G:IntKind} {a:Int}:∀(es:List MapEntry) (i:Nat),(∀e∈es,∃b,e.key=.int G b)->Instr.findNow (.int q) (.int G a) es i=some (zU (.int G a) es i)
 | [],i,_=>rfl
 | e :: es,i,h=>by
   obtain⟨b,hk⟩:=h e qe
   have ih:=Zj (q:=q) (a:=a) es (i+1) (fun x N=>h x bw)
   grind [Instr.findNow,Instr.sameNow,zU]
theorem Ty {a:Bool}:∀(es:List MapEntry) (i:Nat),(∀e∈es,∃b,e.key=.bool b)->Instr.findNow .bool (.bool a) es i=some (zU (.bool a) es i)
 | [],i,_=>rfl
 | e :: es,i,h=>by
   obtain⟨b,hk⟩:=h e qe
   have ih:=Ty (a:=a) es (i+1) (fun x N=>h x bw)
   grind [Instr.findNow,Instr.sameNow,zU]
theorem Pd (h:Es P l k=true):(∃q,P.underlying k=some (.int q))\/P.underlying k=some .bool \/
 ∃n e q i,P.underlying k=some (.array n e)/\P.underlying e=some (.int q)/\P.info? e=some i/\i.size=1/\l.length=n:=by
 grind [Es,Option.isSome_iff_exists,vR]
theorem Tz (w:World) (hl:fG P 20 k=some l) (hm:Es P l k=true) (hu:gE l us us) {es:List MapEntry} (h:aHc P k l us es) :
 (Instr.findKey k (mk (dV P k) us) es).run P w=.ok (zU (mk (dV P k) us) es 0) w:=by
 rcases Pd hm with ⟨q,R⟩|R|⟨n,e,q,i,R,_⟩
 ·have N:dV P k=false:=by simp[dV,R]
  have X:l=[true]:=by grind [fG]
  subst X
  have D:∀vs,gE [true] us vs->∃G a b,us=[.int G a]/\vs=[.int G b]:=fun vs h=>by
   cases us with
   | nil=>simp[gE] at h
   | cons u us=>cases vs with
     | nil=>cases u<;>simp[gE] at h
     | cons v vs =>
       cases u<;>cases v<;>simp[gE] at h
       grind [gE]
  obtain⟨G,a,_,A,_⟩:=D us hu
  have S:∀e∈es,∃b,e.key=.int G b:=fun e he=>by
   obtain⟨vs,J,h2⟩:=h e he
   grind [mk]
  simp_all [mk,Instr.findKey,bJ,Zj]
 ·have N:dV P k=false:=by simp[dV,R]
  have X:l=[false]:=by grind [fG]
  subst X
  have D:∀vs,gE [false] us vs->∃a b,us=[.bool a]/\vs=[.bool b]:=fun vs h=>by
   cases us with
   | nil=>simp[gE] at h
   | cons u us=>cases vs with
     | nil=>cases u<;>simp[gE] at h
     | cons v vs =>
       cases u<;>cases v<;>simp[gE] at h
       grind [gE]
  obtain⟨a,_,A,_⟩:=D us hu
  have S:∀e∈es,∃b,e.key=.bool b:=fun e he=>by
   obtain⟨vs,J,h2⟩:=h e he
   obtain⟨a1,b1,e2,C⟩:=D vs h2
   exact⟨b1,by rw[J,N,C];rfl⟩
  simp_all [mk,Instr.findKey,bJ,Ty]
 ·have N:dV P k=true:=by simp[dV,R]
  cases es with
  | nil =>
    simp[Instr.findKey,bJ R,Instr.findNow,zU]
  | cons m es =>
    have M:Instr.findNow (.array n e) (mk (dV P k) us) (m :: es) 0=none:=by
     simp[Instr.findNow,Instr.sameNow]
    simp only[Instr.findKey,Sem.run_bind,bJ R,Result.andThen_ok,M];grind [Ld]
theorem Pe (w:World) (hl:fG P 20 k=some l) (hm:Es P l k=true) (hu:gE l us us) (em:Bool) :
 (Instr.checkKey em 10000 k (mk (dV P k) us)).run P w=.ok () w:=by
 have plain:∀(n t:Nat) (q:IntKind) (x:Value),P.underlying t=some (.int q)->(Instr.checkKey em (n+1) t x).run P w=.ok () w:=fun n t q x D=>by
  simp[Instr.checkKey,bJ D]
 rcases Pd hm with ⟨q,R⟩|R|⟨n,e,q,i,R,he,hi,hs,hn⟩
 ·grind
 ·have plainB:∀(n t:Nat) (x:Value),P.underlying t=some .bool->(Instr.checkKey em (n+1) t x).run P w=.ok () w:=fun n t x D=>by
   simp[Instr.checkKey,bJ D]
  grind
 ·have N:dV P k=true:=by simp[dV,R]
  have hea:dV P e=false:=by simp[dV,he]
  have hlen:=(lV _ _ _ hu).1
  rw[N];simp only[mk,if_true];rw[show (10000:Nat)=9999+1 from rfl,Instr.checkKey];simp only[Sem.run_bind,bJ R,Result.andThen_ok];simp only[Std.Legacy.Range.forIn_eq_forIn_range',Std.Legacy.Range.size,Nat.sub_zero,Nat.add_one_sub_one,Nat.div_one];have each:∀j∈List.range' 0 n,j<us.length:=fun j Y=>by
   grind
  generalize List.range' 0 n=is at each
  induction is with
  | nil=>simp
  | cons j is ih =>
    have Y:=each j qe
    have p1:=Jr w he hi us j (fun _=>hs) WF
    simp_all [run_sizeOf]
theorem xU:∀(l:List Bool) (us:List Value),gE l us us->∀x∈us,∀n,Instr.sameBits n x x=true
 | [],[],_,x,N,n=>by simp at N
 | true :: l,.int k a :: us,h,x,N,n=>by
   rcases mem_cons.1 N with rfl|N
   ·cases n<;>simp[Instr.sameBits]
   ·exact xU l us h.2 x N n
 | false :: l,.bool a :: us,h,x,N,n=>by
   rcases mem_cons.1 N with rfl|N
   ·cases n<;>simp[Instr.sameBits]
   ·exact xU l us h x N n
theorem aDs (w:World) (hu:gE l us us) (Y:agg=false->l.length=1):(Instr.keyThatStays (mk agg us) (mk agg us)).run P w=.ok (mk agg us) w:=by
 have hs:Instr.sameBits 10000 (mk agg us) (mk agg us)=true:=by
  cases agg with
  | true =>
    simp only[mk,if_true];show Instr.sameBits (9999+1) _ _=true
    simp only[Instr.sameBits,beq_self_eq_true,Bool.true_and];have P1:∀x∈us,Instr.sameBits 9999 x x=true:=fun x N=>xU l us hu x N 9999
    clear hu
    induction us<;>simp_all
  | false =>
    obtain⟨a,rfl⟩:=length_eq_one_iff.1 ((lV _ _ _ hu).1.trans (Y rfl))
    exact xU l [a] hu a qe 10000
 simp[Instr.keyThatStays,hs]
theorem Ua {y:AV} {v:Value} (h:oO P k x y) (hu:cD C x u) (hv:cD C y v) :
 ∃l us vs,fG P 20 k=some l/\gE l us vs/\u=mk (dV P k) us/\v=mk (dV P k) vs/\(x=y↔u=v):=by
 unfold oO at h;cases W:fG P 20 k with
 | none=>simp[W] at h
 | some l =>
   simp only[W] at h;obtain⟨J,h2,S⟩:=h
   cases N:dV P k with
   | true =>
     obtain⟨⟨cs,rfl⟩,ds,rfl⟩:=h2 N
     obtain⟨us,vs,A,M,e3⟩:=Ew _ _ _ J
     simp only[AV.cells] at A M;subst A;subst M;have D:=Dc hu
     have ev:=Dc hv
     refine⟨l,us,vs,rfl,e3,by rw[D];rfl,by rw[ev];rfl, ?_⟩
     grind [NY]
   | false =>
     obtain⟨⟨a,rfl⟩,b,rfl⟩:=S N
     obtain⟨us,vs,A,M,e3⟩:=Ew _ _ _ J
     have D:=iM hu
     have ev:=iM hv
     subst D;subst ev;have f1:us=[u]:=by
      cases us<;>simp_all [AV.cells]
     have f2:vs=[v]:=by
      cases vs<;>simp_all [AV.cells]
     subst f1;subst f2;exact⟨l,_,_,rfl,e3,rfl,rfl,qe⟩
theorem GW {k:Nat} {x:AV} {C:Ctx} {u:Value} {l:List Bool} {us:List Value} (W:fG P 20 k=some l) (hu:cD C x u) (he:u=mk (dV P k) us) (N:gE l us us):∀ {es:List (AV × AV)} {ms:List MapEntry},
 (∀p∈es,oO P k x p.1)->Vv C es ms->aHc P k l us ms
 | [],[],_,_=>fun e h=>by simp at h
 | p :: es,m :: ms,R,h=>by
   have S:=GW W hu he N (es:=es) (ms:=ms) (fun q hq=>R q (by simp[hq])) h.2.2
   intro e D;rcases mem_cons.1 D with rfl|D
   ·obtain⟨l',J,vs,A,M,e3,G,_⟩:=Ua (R p qe) hu h.1
    rw[W] at A;cases A
    refine⟨vs,G, ?_⟩
    have:J=us:=by
     rw[he] at e3;have hlen1:=(lV _ _ _ N).1
     have hlen2:=(lV _ _ _ M).1
     grind [mk,pJ,length_eq_one_iff]
    grind
   ·exact S e D
 | [],_ :: _,_,h=>h.elim
 | _ :: _,[],_,h=>h.elim
theorem PT {k:Nat} {x:AV} {C:Ctx} {u:Value} (hu:cD C x u):∀ {es:List (AV × AV)} {ms:List MapEntry} (i:Nat),(∀p∈es,oO P k x p.1)->Vv C es ms ->
 (KN es x=none/\zU u ms i=none)\/∃v y j,KN es x=some v/\zU u ms i=some (i+j,y)/\cD C v y/\j<ms.length
 | [],[],i,_,_=>.inl ⟨rfl,rfl⟩
 | p :: es,m :: ms,i,R,h=>by
   obtain⟨l',us',vs,e1,e2,e3,e4,D⟩:=Ua (R p qe) hu h.1
   simp only[KN,zU];by_cases N:x=p.1
   ·rw[if_pos N.symm,if_pos (D.1 N)];exact .inr ⟨_,_,0,rfl,rfl,h.2.1,qe⟩
   ·rw[if_neg (Ne.symm N),if_neg (fun G=>N (D.2 G))]
    rcases PT hu (es:=es) (ms:=ms) (i+1) (fun q N=>R q bw) h.2.2 with ⟨J,h2⟩|⟨v,y,j,J,h2,S,h4⟩
    ·grind
    ·exact .inr ⟨v,y,j+1,J,qg,S,qs⟩
 | [],_ :: _,_,_,h=>h.elim
 | _ :: _,[],_,_,h=>h.elim
theorem PU {k:Nat} {x z:AV} {C:Ctx} {u y:Value} (hu:cD C x u) (hz:cD C z y):∀ {es:List (AV × AV)} {ms:List MapEntry} (i:Nat),(∀p∈es,oO P k x p.1)->Vv C es ms ->
 (zU u ms i=none/\∀c,Vv C (Zz es x z) (ms++[{ key:=u,val:=y,born:=c }])) \/
 ∃v j,zU u ms i=some (i+j,v)/\(∃m,ms[j]? = some m/\m.key=u)/\Vv C (Zz es x z) (ms.modify j fun e=>{ e with key:=u,val:=y })
 | [],[],i,_,_=>.inl ⟨rfl,fun c=>⟨hu,hz,trivial⟩⟩
 | p :: es,m :: ms,i,R,h=>by
   obtain⟨l',us',vs,e1,e2,e3,e4,D⟩:=Ua (R p qe) hu h.1
   simp only[Zz,zU];by_cases N:x=p.1
   ·rw[if_pos N.symm,if_pos (D.1 N)];exact .inr ⟨_,0,rfl,⟨m,rfl,(D.1 N).symm⟩,by simp[List.modify];exact⟨hu,hz,h.2.2⟩⟩
   ·rw[if_neg (Ne.symm N),if_neg (fun G=>N (D.2 G))]
    rcases PU hu hz (es:=es) (ms:=ms) (i+1) (fun q N=>R q bw) h.2.2 with ⟨J,h2⟩|⟨v,j,J,h2,S⟩
    ·exact .inl ⟨J,fun c=>⟨h.1,h.2.1,h2 c⟩⟩
    ·exact .inr ⟨v,j+1,qg,oo,by simp[modify_succ_cons];exact⟨h.1,h.2.1,S⟩⟩
 | [],_ :: _,_,_,h=>h.elim
 | _ :: _,[],_,_,h=>h.elim
theorem Ub (h:Da P T=some (k,z)):∃e l Y,P.underlying T=some (.map k e)/\fG P 20 k=some l/\Es P l k=true /\
 (∀w,(zeroValue e).run P w=.ok Y w)/\∀C:Ctx,cD C z Y:=by
 unfold Da at h;split at h
 ·rename_i k' e hT
  split at h
  ·rename_i l z' W R
   split at h
   ·rename_i hm;simp only[cQ,Prod.mk.injEq] at h;obtain⟨rfl,rfl⟩:=h
    unfold aMS at R;split at R
    ·rename_i i hi;split at R
     ·rename_i cs A;split at R
      ·rename_i u;simp only[cQ] at R;subst R;refine⟨e,l,_,hT,W,hm,fun w=>Dw w hi A,fun C=>?_⟩
       have hc:=dN.vs C cs.toList (all_eq_true.1 u)
       grind [cD.agg,dN.rel]
      ·cases R
     ·rename_i y hy A;split at R
      ·simp only[cQ] at R;subst R;simp_all [Dw,cD.v]
      ·cases R
     ·cases R
    ·cases R
   ·cases h
  ·cases h
 ·cases h
end
section
variable {P:Program} {h0:Nat->Obj->Prop} {w0:World} {F:Jb} {nt:Nat} {ρ:Nat->Nat->Value} {st:St} {a:Act} {w:World}
theorem W7 (S:kI F h0 w0 nt ρ st a w) {m:AV} {ok:Bool} {D:Value} (h:Io P st T m x ok=some z) (hm:cD (ctx h0 w0 ρ st w) m mv) (N:cD (ctx h0 w0 ρ st w) x D) :
 ∃r,(Instr.lookup T mv D ok).run P w=.ok r w/\cD (ctx h0 w0 ρ st w) z r:=by
 unfold Io at h;split at h
 ·rename_i s g;split at h
  ·rename_i es k zd he hi;split at h
   ·rename_i R;obtain⟨e,l,Y,hT,W,p,hz,hzr⟩:=Ub hi
    obtain⟨_,_,b,arr,clock,lP,_,u,hml⟩:=S.tG s g _ he
    obtain⟨l',us,vs,A,M,C,G,_⟩:=Ua R.1 N N
    rw[W] at A;cases A
    have RI:vs=us:=by
     rw[C] at G;have hlen:=lV _ _ _ M
     grind [mk,pJ,length_eq_one_iff]
    subst RI;have PS:=GW W N C M R.2 hml
    cases hm with
    | mp _ _ hg ho =>
      show ∃r,(Instr.lookup T (ρ s g) D ok).run P w=.ok r w/\_
      rw[lP,C];have hck:=Pe w W p M arr.isEmpty
      have X:=Tz w W p M PS
      rcases PT N 0 R.2 hml with ⟨J,h2⟩|⟨v,y,j,J,h2,h3,_⟩
      ·rw[J] at h;simp only[cQ] at h;subst h;rw[C] at h2;rw[h2] at X;refine⟨if ok=true then .tuple #[Y,.bool false] else Y,by
        simp[Instr.lookup,bJ hT,MapKept.run_getObj_map u,hck,X,hz w], ?_⟩
       grind [cD.cY,cD.v]
      ·rw[J] at h;simp only[cQ] at h;subst h;rw[C] at h2;rw[h2] at X;refine⟨if ok=true then .tuple #[y,.bool true] else y,by
        simp[Instr.lookup,bJ hT,MapKept.run_getObj_map u,hck,X], ?_⟩
       grind [cD.cY,cD.v]
   ·cases h
  ·cases h
 ·cases h
theorem TO (S:kI F h0 w0 nt ρ st a w) {s g:Nat} {m y:AV} {e:mH} {xv yv:Value} (h:qD P st T m x y=some (s,g,e))
 (hm:cD (ctx h0 w0 ρ st w) m mv) (N:cD (ctx h0 w0 ρ st w) x xv) (Y:cD (ctx h0 w0 ρ st w) y yv) :
 ∃w',(Instr.mapUpdate T mv xv yv).run P w=.ok () w'/\kI F h0 w0 nt ρ (st.gV s g (some e)) a w':=by
 unfold qD at h;split at h
 ·rename_i D g'
  split at h
  ·rename_i es k zd he hi;split at h
   ·rename_i R;obtain⟨R,p⟩:=R
    simp only[cQ,Prod.mk.injEq] at h;obtain⟨rfl,rfl,rfl⟩:=h
    obtain⟨e,l,zv,hT,W,hmk,hz,hzr⟩:=Ub hi
    obtain⟨_,_,b,arr,clock,lP,vE,u,hml⟩:=S.tG D g' _ he
    obtain⟨l',us,vs,e1,M,e3,G,_⟩:=Ua R.1 N N
    rw[W] at e1;cases e1
    have RI:vs=us:=by
     rw[e3] at G;have hlen:=lV _ _ _ M
     grind [mk,pJ,length_eq_one_iff]
    subst RI;have PS:=GW W N e3 M R.2 hml
    clear G
    subst e3;have r:cW (ρ D g')=some b:=by rw[lP];rfl
    have grown:∀o,w.grownBy { w with heap:=w.heap.setIfInBounds b o } (some b):=fun o=>⟨rfl,rfl,rfl,qe,fun k _ R=>by
     grind⟩
    cases hm with
    | mp _ _ hg ho =>
      show ∃w',(Instr.mapUpdate T (ρ D g') _ yv).run P w=.ok () w'/\_
      have hck:=Pe w W hmk M false
      have X:=Tz w W hmk M PS
      have A:b<w.heap.size:=(Array.getElem?_eq_some_iff.1 u).1
      rcases PU (z:=y) N Y 0 R.2 hml with ⟨J,h2⟩|⟨v,j,J,⟨m0,hm0,hmk0⟩,h3⟩
      ·rw[J] at X;refine⟨_,by
        rw[lP];simp only[Instr.mapUpdate,Sem.run_bind,bJ hT,MapKept.run_getObj_map u,Result.andThen_ok,hck,X,MapKept.run_setObj_map _ u];rfl,S.store he r (grown _) fun C kk=>?_⟩
       refine⟨b,arr.push { key:=mk (dV P k) vs,val:=yv,born:=clock },clock+1,lP,vE,by simp[A], ?_⟩
       grind [Vv.le]
      ·rw[J] at X;have p:=aDs (P:=P) w (agg:=dV P k) M (pJ 20 k l W)
       have hm0':arr[j]? = some m0:=by simpa using hm0
       have GX:((arr[0+j]?).map (·.key)).getD (mk (dV P k) vs)=mk (dV P k) vs:=by
        grind
       refine⟨_,by
        rw[lP];simp only[Instr.mapUpdate,Sem.run_bind,bJ hT,MapKept.run_getObj_map u,Result.andThen_ok,hck,X,GX,p,MapKept.run_setObj_map _ u];rfl,S.store he r (grown _) fun C kk=>?_⟩
       refine⟨b,arr.modify (0+j) fun e=>{ e with key:=mk (dV P k) vs,val:=yv },clock,lP,vE,by simp[A], ?_⟩
       grind [Vv.le]
   ·cases h
  ·cases h
 ·cases h
end
end Go.Ab
end
section
namespace Go.Ab
open Classical
variable {T:Nat} {x:AV} {lo:Option Operand} {u v:Value} {C:Ctx}
section
variable {P:Program} {h0:Nat->Obj->Prop} {w0:World} {F:Jb} {nt:Nat} {ρ:Nat->Nat->Value} {st:St} {a:Act} {w:World}
theorem A7 (S:kI F h0 w0 nt ρ st a w) {z:AV} {hi:Option Operand} (h:dW P st T x lo hi=some z) (hu:cD (ctx h0 w0 ρ st w) x u) :
 ∃r,(Instr.sliceAt T u (lo.map a.eval) (hi.map a.eval) none).run P w=.ok r w/\cD (ctx h0 w0 ρ st w) z r:=by
 unfold dW at h;cases hs:dD P T with
 | none =>
   simp only[hs] at h;split at h
   ·rename_i n sz s g o ha;obtain⟨e,ei,hT,hi,rfl,mC⟩:=Rw ha
    cases he:st.heap s g with
    | none=>simp[he] at h
    | some en =>
      cases en with
      | cells es =>
        simp only[he,cQ] at h;subst h;obtain⟨_,_,b1,arr,T1,m,_⟩:=S.tG s g _ he
        cases hu with
        | ptr _ _ _ b hg hb =>
          refine⟨.slice (some ⟨b,o,none⟩) n n, ?_,.vw s g o n b n hg hb (Nat.le_refl _) (fun ho p n0 c0 G=>by
           have h2:ρ s g=.slice p n0 c0:=G
           rw[m] at h2;cases h2)⟩
          simp[Instr.sliceAt,bJ hT,Instr.sureAddr,Instr.sliceBounds,run_sizeOf w hi,mD]
      | _=>simp[he] at h
   ·cases h
 | some t =>
   obtain⟨e,sz,by_⟩:=t
   simp only[hs] at h;obtain⟨ei,ez,hT,Jc,Yu,rfl,Rl,rfl,Bg⟩:=kS hs
   have hiv:∀(o:Option Operand) (n:Int) (k:IntKind) (i:Int),(match o with|some h=>st.ev h|none=>AV.v (.int .i64 n))=.v (.int k i) ->
    (match o with|some h=>a.eval h|none=>Value.int .i64 n)=.int k i:=fun o n k i ho=>by
    cases o with
    | none=>simp only at ho ⊢;cases ho;rfl
    | some p =>
      simp only at ho ⊢
      have:=S.ev p
      rw[ho] at this;exact iM this
   have xK:∀(p:Option Addr) (n cap:Nat) (C kl:IntKind) (H L:Int),n<=cap->(match hi with|some h=>a.eval h|none=>Value.int .i64 n)=.int C H->(match lo with|some l=>a.eval l|none=>Value.int .i64 0)=.int kl L ->
    0<=L->L<=H->H<=n ->
    (Instr.sliceAt T (.slice p n cap) (lo.map a.eval) (hi.map a.eval) none).run P w=.ok (.slice (if cap=L.toNat then p else p.map (·.add (L.toNat * ei.size))) (H.toNat-L.toNat) (cap-L.toNat)) w:=by
    intro p n cap C kl H L N hh W l0 l1 l2;have b1:H<=(cap:Int):=WF
    have b2:L<=((H.toNat:Nat):Int):=WF
    have b3:0<=H:=WF
    have b6:max H 0=H:=WF
    cases hi with
    | none =>
      simp only[Value.int.injEq] at hh;obtain⟨rfl,rfl⟩:=hh
      cases lo with
      | none =>
        simp only[Value.int.injEq] at W;obtain⟨rfl,rfl⟩:=W
        simp[Instr.sliceAt,Instr.slice,Instr.sliceBounds,bJ hT,run_sizeOf w Jc]
      | some l =>
        simp only at W
        simp[Instr.sliceAt,Instr.slice,Instr.sliceBounds,Instr.sliceBound,asIntOf,bJ hT,run_sizeOf w Jc,W,l0,l1]
    | some h =>
      simp only at hh
      cases lo with
      | none =>
        simp only[Value.int.injEq] at W;obtain⟨rfl,rfl⟩:=W
        simp[Instr.sliceAt,Instr.slice,Instr.sliceBounds,Instr.sliceBound,asIntOf,bJ hT,run_sizeOf w Jc,hh,b3,b1]
      | some l =>
        simp only at W
        simp[Instr.sliceAt,Instr.slice,Instr.sliceBounds,Instr.sliceBound,asIntOf,bJ hT,run_sizeOf w Jc,hh,W,l0,b3,b1,b6,l1]
   cases x with
   | sl n cs =>
     simp only at h
     split at h
     ·rename_i C H kl L e1 e2;split at h
      ·rename_i G;obtain⟨c1,c2,c3,c4⟩:=G
       simp only[cQ] at h;subst h;have e1':=hiv hi n C H e1
       have e2':=hiv lo 0 kl L e2
       have hHL:(H-L).toNat=H.toNat-L.toNat:=WF
       cases hu with
       | QR n cap p N =>
         refine⟨_,xK p n cap C kl H L N e1' e2' c1 c2 c3, ?_⟩
         grind [cD.QR]
       | sl n cs b off cap arr T' fr N hb hle hr J =>
         refine⟨_,xK _ n cap C kl H L N e1' e2' c1 c2 c3, ?_⟩
         rw[hHL];by_cases hm:cap=L.toNat
         ·grind [cD.QR]
         ·rw[if_neg hm];simp only[cR,mD];have hbound:L.toNat * ei.size+(H.toNat-L.toNat) * ei.size<=cs.length:=by
           rw[c4,<- Nat.add_mul];exact Nat.mul_le_mul_right _ WF
          refine .sl _ _ b (off+L.toNat * ei.size) _ arr T' fr WF hb qs (fun i x y hx Y=>?_) (fun i y Nq Y=>?_)
          ·grind
          ·simp only[length_take,length_drop] at Nq
           exact J (L.toNat * ei.size+i) y WF (by rw[<- Nat.add_assoc];exact Y)
      ·cases h
     ·cases h
   | v xv =>
     split at h
     ·rename_i heq;cases heq
     ·rename_i heq;cases heq
      split at h
      ·rename_i C H kl L e1 e2;split at h
       ·rename_i G;obtain⟨rfl,rfl⟩:=G
        simp only[cQ] at h;subst h;have:=iM hu
        subst this;have e1':=hiv hi 0 C 0 e1
        have e2':=hiv lo 0 kl 0 e2
        refine⟨_,xK none 0 0 C kl 0 0 (Nat.le_refl _) e1' e2' WF WF WF, ?_⟩
        simp
        exact .v _
       ·cases h
      ·cases h
     all_goals grind
   | own s g =>
     simp only at h
     cases he:st.heap s g with
     | none=>simp[he] at h
     | some en =>
       cases en with
       | row e' vK n es =>
         simp only[he] at h;split at h
         ·rename_i C H kl L e1 e2;split at h
          ·rename_i G;obtain⟨c1,c2,c3⟩:=G
           have e1':=hiv hi n C H e1
           have e2':=hiv lo 0 kl L e2
           have hHL:(H-L).toNat=H.toNat-L.toNat:=WF
           obtain⟨A,_,xs,ho,Hr⟩:=S.tG s g _ he
           cases hu with
           | own _ _ hg J =>
             show ∃r,(Instr.sliceAt T (ρ s g) (lo.map a.eval) (hi.map a.eval) none).run P w=.ok r w/\_
             rcases ho.2 with ⟨p,m,M⟩|⟨X,cap,cur,m,_,hh,Xd,_,_,D,yX⟩
             ·grind [Int.toNat,cD.QR]
             ·rw[m];refine⟨_,xK _ n cap C kl H L Xd e1' e2' c1 c2 c3, ?_⟩
              split at h
              ·grind [cD.QR]
              ·rename_i hLH;simp only[cQ] at h;subst h;rw[if_neg WF,hHL]
               simp only[cR,mD,Nat.zero_add];exact .vw s g _ _ X _ hg (by show cW (ρ s g)=_;rw[m,gK yX]) WF (fun R p n0 c0 G=>by
                have h3:L.toNat=0:=(Nat.mul_eq_zero.1 R).resolve_right WF
                have h2:ρ s g=.slice p n0 c0:=G
                grind)
          ·cases h
         ·cases h
       | _=>simp[he] at h
   | vw s g o k =>
     cases o with
     | succ o=>simp at h
     | zero =>
     simp only at h
     split at h
     ·rename_i e' vK n es ho' Mi he
      split at h
      ·rename_i C H kl L e1 e2;split at h
       ·rename_i G;obtain⟨c1,c2,c3⟩:=G
        simp only[cQ] at h;subst h;obtain⟨A,_,xs,ho,Hr⟩:=S.tG s g _ he
        cases hu with
        | vw _ _ _ _ b cap hg hb N wR =>
          have wQ:cW (ρ s g)=some b:=hb
          rcases ho.2 with ⟨p,m,M⟩|⟨X,DF,cur,m,_,hh,Xd,_,_,D,yX⟩
          ·rw[m,pH] at wQ;cases wQ
          ·have Pn:X=b:=by rw[m,gK yX] at wQ;simpa using wQ
           subst Pn;have hcc:cap=DF:=wR rfl _ _ _ m
           subst hcc;have f1:a.eval ho'=.int C H:=by
            have:=S.ev ho'
            rw[e1] at this;exact iM this
           have f2:a.eval Mi=.int kl L:=by
            have:=S.ev Mi
            rw[e2] at this;exact iM this
           have b1:H<=(cap:Int):=WF
           have b2:L<=((H.toNat:Nat):Int):=WF
           have b3:0<=H:=WF
           have b6:max H 0=H:=WF
           have b7:¬cap=L.toNat:=WF
           refine⟨.slice (some ⟨X,L.toNat * ei.size,none⟩) (H.toNat-L.toNat) (cap-L.toNat), ?_, ?_⟩
           ·simp[Instr.sliceAt,Instr.slice,Instr.sliceBounds,Instr.sliceBound,asIntOf,bJ hT,run_sizeOf w Jc,f1,f2,c1,b3,b1,b6,b2,b7,mD,show L<=H from WF]
           ·rw[show (H-L).toNat=H.toNat-L.toNat from WF]
            exact .vw s g _ _ X _ hg hb WF (fun R p n0 c0 G=>by
             grind [Nat.mul_eq_zero])
       ·cases h
      ·cases h
     ·cases h
   | _=>first|(simp at h;done)|(cases h;done)
theorem TP (S:kI F h0 w0 nt ρ st a w) {z:AV} {hi D:Operand} (h:tX P st T x lo hi D=some z) (hu:cD (ctx h0 w0 ρ st w) x u) :
 ∃r,(Instr.sliceAt T u (lo.map a.eval) (some (a.eval hi)) (some (a.eval D))).run P w=.ok r w/\cD (ctx h0 w0 ρ st w) z r:=by
 unfold tX at h;cases hs:dD P T with
 | none=>simp[hs] at h
 | some t =>
   obtain⟨e,sz,by_⟩:=t
   simp only[hs] at h;obtain⟨ei,ez,hT,Jc,Yu,rfl,Rl,rfl,Bg⟩:=kS hs
   have vL:∀(o:Operand) (k:IntKind) (i:Int),st.ev o=.v (.int k i)->a.eval o=.int k i:=fun o k i ho=>by
    have:=S.ev o
    rw[ho] at this;exact iM this
   split at h
   ·rename_i kh H km M kl L A e2 C;have f1:=vL _ _ _ A
    have f2:=vL _ _ _ e2
    have xK:∀(p:Option Addr) (n cap:Nat),n<=cap->0<=L->L<=H->H=M->H<=n ->
     (Instr.sliceAt T (.slice p n cap) (lo.map a.eval) (some (a.eval hi)) (some (a.eval D))).run P w=.ok (.slice (if H.toNat=L.toNat then p else p.map (·.add (L.toNat * ei.size))) (H.toNat-L.toNat) (H.toNat-L.toNat)) w:=by
     intro p n cap N l0 l1 W l3;subst W;have b1:H<=(cap:Int):=WF
     have b2:L<=((H.toNat:Nat):Int):=WF
     have b3:0<=H:=WF
     have R:H<=((H.toNat:Nat):Int):=WF
     have b6:max H 0=H:=WF
     cases lo with
     | none =>
       simp only[AV.v.injEq,Value.int.injEq] at C;obtain⟨rfl,rfl⟩:=C
       simp[Instr.sliceAt,Instr.slice,Instr.sliceBounds,Instr.sliceBound,asIntOf,bJ hT,run_sizeOf w Jc,f1,f2,b3,b1,R,b6]
     | some l =>
       simp only at C
       have f3:=vL _ _ _ C
       simp[Instr.sliceAt,Instr.slice,Instr.sliceBounds,Instr.sliceBound,asIntOf,bJ hT,run_sizeOf w Jc,f1,f2,f3,l0,l1,b3,b1,b2,R,b6]
    split at h
    ·rename_i n cs;split at h
     ·rename_i G;obtain⟨c1,c2,c3,c4,c5⟩:=G
      simp only[cQ] at h;subst h;have hHL:(H-L).toNat=H.toNat-L.toNat:=WF
      cases hu with
      | QR n cap p N =>
        simp_all [cD.cc]
      | sl n cs b off cap arr T' fr N hb hle hr J =>
        refine⟨_,xK _ n cap N c1 c2 c3 c4, ?_⟩
        rw[hHL];by_cases hm:H.toNat=L.toNat
        ·simp_all [cD.cc]
        ·rw[if_neg hm];simp only[cR,mD];have hbound:L.toNat * ei.size+(H.toNat-L.toNat) * ei.size<=cs.length:=by
          rw[c5,<- Nat.add_mul];exact Nat.mul_le_mul_right _ WF
         refine .cl _ _ b (off+L.toNat * ei.size) arr T' fr hb qs (fun i x y hx Y=>?_) (fun i y Nq Y=>?_)
         ·grind
         ·simp only[length_take,length_drop] at Nq
          exact J (L.toNat * ei.size+i) y WF (by rw[<- Nat.add_assoc];exact Y)
     ·cases h
    ·grind [iM]
    ·rename_i s g;cases he:st.heap s g with
     | none=>simp[he] at h
     | some X =>
       cases X with
       | row e' vK n es =>
         simp only[he] at h;split at h
         ·rename_i G;obtain⟨c1,c2,c3,c4⟩:=G
          simp only[cQ] at h;subst h;obtain⟨bB,_,xs,ho,Hr⟩:=S.tG s g _ he
          have hrun3:∀(p:Option Addr) (cap:Nat),n<=cap->∃q,(Instr.sliceAt T (.slice p n cap) (lo.map a.eval) (some (a.eval hi)) (some (a.eval D))).run P w=.ok (.slice q (H.toNat-L.toNat) (M.toNat-L.toNat)) w:=by
           intro p cap N;have b1:M<=(cap:Int):=WF
           have b2:L<=((H.toNat:Nat):Int):=WF
           have b3:0<=H:=WF
           have R:H<=((M.toNat:Nat):Int):=WF
           have b5:0<=M:=WF
           have b6:max M 0=M:=WF
           have b7:max H 0=H:=WF
           cases lo with
           | none =>
             simp only[AV.v.injEq,Value.int.injEq] at C;obtain⟨rfl,rfl⟩:=C
             exact⟨_,by simp[Instr.sliceAt,Instr.slice,Instr.sliceBounds,Instr.sliceBound,asIntOf,bJ hT,run_sizeOf w Jc,f1,f2,b3,b1,R,b5,b6,b7,c3]<;>rfl⟩
           | some l =>
             simp only at C
             have f3:=vL _ _ _ C
             exact⟨_,by simp[Instr.sliceAt,Instr.slice,Instr.sliceBounds,Instr.sliceBound,asIntOf,bJ hT,run_sizeOf w Jc,f1,f2,f3,c1,c2,c3,b3,b1,b2,R,b5,b6,b7]<;>rfl⟩
          cases hu with
          | own _ _ hg J =>
            show ∃r,(Instr.sliceAt T (ρ s g) _ _ _).run P w=.ok r w/\_
            have Wt:∃p cap,ρ s g=.slice p n cap/\n<=cap:=by
             rcases ho.2 with ⟨p,m,hn⟩|⟨b',cap,cur,m,_,hh,Xd,_⟩
             all_goals grind
            obtain⟨p,cap,m,Xd⟩:=Wt
            rw[m];obtain⟨q,hq⟩:=hrun3 p cap Xd
            grind [Int.toNat,cD.QR]
         ·cases h
       | _=>simp[he] at h
    ·cases h
   ·cases h
theorem aHd {s g off:Nat} (h:cD C (.ptr s g off) v):∃b off,v=.pointer (some ⟨b,off,none⟩):=by
 cases h;exact⟨_,_,rfl⟩
theorem aK2 {cs:List AV} {o:Nat} (h:cD C (.ip cs o) v):∃b off,v=.pointer (some ⟨b,off,none⟩):=by
 cases h;exact⟨_,_,rfl⟩
theorem aHe {vs:List AV} (h:cD C (.cY vs) v):∃p,v=.tuple p/\vs.length=p.size/\∀(i:Nat) (x:AV) (y:Value),vs[i]? = some x->p[i]? = some y->cD C x y:=by
 cases h<;>grind
theorem A8 (S:kI F h0 w0 nt ρ st a w) {o:Oper} (h:jG P st o.op=some x) :
 ∃v,(execOp a.eval o).run P w=.ok (.value v) w/\cD (ctx h0 w0 ρ st w) x v:=by
 cases A:o.op with
 | move y=>rw[A] at h;simp[jG] at h;subst h;exact⟨_,by simp[execOp,A],S.ev y⟩
 | assign y=>rw[A] at h;simp[jG] at h;subst h;exact⟨_,by simp[execOp,A],S.ev y⟩
 | pick c y z =>
   rw[A] at h;simp only[jG] at h;split at h
   ·rename_i t G;simp only[cQ] at h;subst h;have:=S.ev c
    rw[G] at this;have:=iM this
    refine⟨if t=true then a.eval y else a.eval z,by simp[execOp,A,this,asBool], ?_⟩
    cases t
    ·exact S.ev z
    ·exact S.ev y
   ·cases h
 | binOp op T y z yT =>
   rw[A] at h;simp only[jG] at h;obtain⟨r,X,J⟩:=O9 (w:=w) y z h (S.ev y) (S.ev z)
   exact⟨r,by simp only[execOp,A];rw[iF X];rfl,J⟩
 | unOp op T y =>
   rw[A] at h;simp only[jG] at h;obtain⟨r,X,J⟩:=aCy (P:=P) (w:=w) h (S.ev y)
   simp_all [execOp]
 | convert src dst y =>
   rw[A] at h;simp only[jG] at h;split at h
   ·rename_i k' n k ks Y R hks
    simp only[cQ] at h;subst h;have:=S.ev y
    rw[Y] at this;have C:=iM this
    have hu:∀ {t:Nat} {k:IntKind},intKind P t=some k->P.underlying t=some (.int k):=fun {t k} R=>by
     grind [intKind]
    simp_all [cD.v,execOp,convert,Conv.intToInt,bJ]
   ·cases h
 | nilCheck y =>
   rw[A] at h;simp only[jG] at h;split at h
   ·rename_i s g off Y;simp only[cQ] at h;subst h;have X:=S.ev y
    rw[Y] at X;obtain⟨b,off',C⟩:=aHd X
    exact⟨a.eval y,by simp[execOp,A,C],X⟩
   ·rename_i cs o Y;simp only[cQ] at h;subst h;have X:=S.ev y
    rw[Y] at X;obtain⟨b,off',C⟩:=aK2 X
    exact⟨a.eval y,by simp[execOp,A,C],X⟩
   ·cases h
 | fieldAddr T y f =>
   rw[A] at h;simp only[jG] at h;split at h
   ·rename_i k W;obtain⟨r,X,J⟩:=AB (w:=w) W h (S.ev y)
    simp_all [execOp]
   ·cases h
 | field T y f =>
   rw[A] at h;simp only[jG] at h;unfold Pk at h;split at h
   ·rename_i cs Y;have X:=S.ev y
    rw[Y] at X;obtain⟨u,hu⟩:∃u,a.eval y=u:=⟨_,rfl⟩
    rw[hu] at X;cases X with
    | agg _ ar hl J h1 =>
      have key:∀off b k,fieldInfo P T f=some (off,b,k)->∃M fd i d,P.underlying T=some (.struct M)/\M[f]? = some fd/\fd.offset=off/\P.info? fd.type=some i/\P.underlying fd.type=some d/\dV P fd.type=b/\i.size=k/\(b=true\/k=1):=fun off b k W=>by
       grind [fieldInfo,Dd]
      split at h
      ·rename_i off k W;obtain⟨M,fd,i,d,hT,hfd,rfl,hi,l,uH,rfl,_⟩:=key _ _ _ W
       split at h
       ·rename_i hle;simp only[cQ] at h;subst h;have hp:=Jr w l hi ar.toList fd.offset (by rw[uH];simp) qs
        rw[uH] at hp;simp only[mk,if_true,Array.toArray_toList] at hp;refine⟨_,by
         simp only[execOp,A,hu];rw[iF (show (Instr.field T (Value.agg ar) f).run P w=.ok _ w by
          simp only[Instr.field,Sem.run_bind,bJ hT,Result.andThen_ok,hfd,asAgg,Sem.run_pure];exact hp)]
         rfl,.agg _ _ (by simp[hl]) (fun j x z N hz=>?_) fun j z hz=>?_⟩
        all_goals grind
       ·cases h
      ·rename_i off k W;obtain⟨M,fd,i,d,hT,hfd,rfl,hi,l,uH,rfl,R⟩:=key _ _ _ W
       have hk1:i.size=1:=by simpa using R
       have bB:fd.offset<cs.length:=(List.getElem?_eq_some_iff.1 h).1
       have hp:=Jr w l hi ar.toList fd.offset (fun _=>hk1) qs
       rw[uH] at hp;simp only[mk,Bool.false_eq_true,if_false,Array.toArray_toList] at hp;refine⟨_,by
        simp only[execOp,A,hu];rw[iF (show (Instr.field T (Value.agg ar) f).run P w=.ok _ w by
         simp only[Instr.field,Sem.run_bind,bJ hT,Result.andThen_ok,hfd,asAgg,Sem.run_pure];exact hp)]
        rfl, ?_⟩
       grind [take_one,head?_drop]
      ·cases h
   ·cases h
 | indexAddr T y i =>
   rw[A] at h;simp only[jG] at h;obtain⟨r,X,J⟩:=AD S h (S.ev y) (S.ev i)
   simp_all [execOp]
 | load T y =>
   rw[A] at h;simp only[jG] at h;cases hra:rM st (st.ev y) with
   | none=>simp[hra,cT] at h
   | some cs =>
     simp only[hra,cT] at h;obtain⟨r,X,J⟩:=DE S hra h (S.ev y)
     simp_all [execOp]
 | extract t i =>
   rw[A] at h;simp only[jG] at h;split at h
   ·rename_i vs D;have X:=S.ev t
    rw[D] at X;obtain⟨ar,C,hl,J⟩:=aHe X
    have hi:i<vs.length:=(List.getElem?_eq_some_iff.1 h).1
    have Nq:i<ar.size:=WF
    refine⟨ar[i], ?_,J i x ar[i] h (by simp[Nq])⟩
    simp[execOp,A,C,Instr.extract,Nq]
   ·cases h
 | build T parts =>
   rw[A] at h;simp only[jG] at h;obtain⟨r,X,J⟩:=XR S h
   simp_all [execOp]
 | slice T y lo hi mx =>
   rw[A] at h;cases mx with
   | some m =>
     cases hi with
     | none=>simp[jG] at h
     | some hh =>
       simp only[jG] at h;obtain⟨r,X,J⟩:=TP S h (S.ev y)
       simp_all [execOp]
   | none =>
     simp only[jG] at h;obtain⟨r,X,J⟩:=A7 S h (S.ev y)
     simp_all [execOp]
 | lookup T y i ok =>
   rw[A] at h;simp only[jG] at h;obtain⟨r,X,J⟩:=W7 S h (S.ev y) (S.ev i)
   simp_all [execOp]
 | makeFunc fn first captured =>
   rw[A] at h;cases fn with
   | func f =>
     simp only[jG] at h;split at h
     ·rename_i W;subst W;simp only[cQ] at h;subst h;have J:jD (ctx h0 w0 ρ st w) (captured.toList.map st.ev) (captured.toList.map a.eval):=jD.map _ _ _ fun p _=>S.ev p
      refine⟨.func (.func f) #[] (captured.map a.eval), ?_,.rL f _ _ qe fun i x y N Y=>J.rel i x y N xn⟩
      simp[execOp,A,Instr.makeFunc]
     ·cases h
   | _=>simp[jG] at h
 | _=>rw[A] at h;simp[jG] at h
end
end Go.Ab
end
section
namespace Go.Ab
open Classical
variable {C D:Ctx} {x y:AV} {v:Value} {b e sz n:Nat} {xs:List Value} {α:Type} {cs:List AV}
theorem cD.flat (W:Flat x) (X:cD C x v) (hh:∀b o,C.h b o->D.h b o):cD D x v:=by
 induction X with
 | v x=>exact .v x
 | agg cs a hl _ J S=>cases W<;>grind [agg]
 | QR n cap p N=>exact .QR n cap p N
 | sl n cs b off cap arr T fr N hb hle _ J S=>cases W<;>grind [sl]
 | cc n p=>exact .cc n p
 | cl n cs b off arr T fr hb hle _ J S=>cases W<;>grind [cl]
 | ip cs o b off arr T fr hb hle _ J S=>cases W<;>grind [ip]
 | ptr=>cases W
 | own=>cases W
 | vw=>cases W
 | mp=>cases W
 | rL f cs a hl _ S=>cases W<;>grind [rL]
 | cY cs a hl _ S=>cases W<;>grind [cY]
def cD.Uc (W:cZ x) (X:cD C x v):cD D x v:=by
 induction X with
 | v x=>exact .v x
 | agg cs a hl _ h1 S=>cases W<;>grind [agg]
 | cY cs a hl _ S=>cases W<;>grind [cY]
 | _=>cases W
def bare (h:Nat->Obj->Prop):Ctx:=⟨h,fun _ _=>undef,fun _=>0⟩
inductive Oa:AV->Prop
 | v (x:Value):Oa (.v x)
 | agg (cs:List AV) (h:∀x∈cs,Oa x):Oa (.agg cs)
 | cY (cs:List AV) (h:∀x∈cs,Oa x):Oa (.cY cs)
 | own (s g:Nat):Oa (.own s g)
def cZ.tm (h:cZ x):Oa x:=by
 induction h<;>grind [Oa.v,Oa.agg,Oa.cY]
def cD.tm (W:Oa x) (X:cD C x v) (hc:∀s,C.aJ s<=D.aJ s) (lP:∀s g,g<C.aJ s->D.ρ s g=C.ρ s g):cD D x v:=by
 induction X with
 | v x=>exact .v x
 | agg cs a hl _ h1 S=>cases W<;>grind [agg]
 | cY cs a hl _ S=>cases W<;>grind [cY]
 | own s g hg ho=>grind [own]
 | _=>cases W
def newHs (h0:Nat->Obj->Prop) (w w':World) (vs:List Value):Nat->Obj->Prop :=
 fun b o=>w'.heap[b]? = some o/\(b<w.heap.size->h0 b o)/\∀x∈vs,cW x≠some b
def FX (h0:Nat->Obj->Prop) (w w':World) (r:AV) (v:Value):Prop :=
 ∃vs:List Value,(∀x∈vs,x.oneCell'=true)/\(∀(i j:Nat) (x y:Value) (b:Nat),vs[i]? = some x->vs[j]? = some y->cW x=some b->cW y=some b->i=j) /\
  (∀x∈vs,∀b,cW x=some b->w.heap.size<=b)/\(∀d c,(XN d c r).2.length=vs.length) /\
  ∀(D:Ctx) (d c:Nat),(∀b o,newHs h0 w w' vs b o->D.h b o)->(∀(i:Nat) (x:Value),vs[i]? = some x->c+i<D.aJ d/\D.ρ d (c+i)=x) ->
   cD D (XN d c r).1 v/\∀(i:Nat) (e:mH) (x:Value),(XN d c r).2[i]? = some e->vs[i]? = some x->lU D w' w.heap.size x e
def Eh (P:Program) (g:Nat) (xs:List AV) (r:AV):Prop :=
 ∀(w:World) (h0:Nat->Obj->Prop) (vs:Array Value),(∀b o,h0 b o->w.heap[b]? = some o)->jD (bare h0) xs vs.toList ->
  Calls P g vs w fun e w'=>∃v,e=.returned v/\FX h0 w w' r v/\w.grownBy w' none
def TS (P:Program) (g e sz n:Nat) (cs xs:List AV) (r:AV):Prop :=
 ∀(w:World) (h0:Nat->Obj->Prop) (v0:Value) (ys:List Value) (vs:Array Value),(∀b o,h0 b o->w.heap[b]? = some o)->(∀b o,h0 b o->cW v0≠some b)->kK w 0 e sz v0 n ys->dN (bare h0) cs ys ->
  jD (bare h0) xs vs.toList->Calls P g (#[v0]++vs) w fun X w'=>∃v,X=.returned v/\w.grownBy w' (cW v0) /\
   match r with
   | .uniq e' l W Y=>∃D,kK w' 0 e' l v W D/\dN (bare h0) Y D/\∀b,cW v=some b->cW v0=some b\/w.heap.size<=b
   | .cY [.uniq e' l W Y]=>v=.tuple #[]/\∃D,kK w' 0 e' l v0 W D/\dN (bare h0) Y D
   | _=>False
def pU (P:Program) (g:Nat) (xs:List AV) (r:AV):Prop :=
 match xs with
 | .uniq e sz n cs :: rest=>TS P g e sz n cs rest r
 | xs=>Eh P g xs r
def Enters (P : Program) (g : Nat) : Prop := ∃ fn, P.funcs[g]? = some fn ∧ (fn.name == "runtime.NumGoroutine") = false ∧ fn.body.isSome = true
def mN (P:Program) (call:Nat->List AV->Option AV):Prop:=∀g xs r,call g xs=some r->Enters P g/\pU P g xs r
theorem TT {f:Nat->AV->AV × List mH}:∀(xs:List AV) (c:Nat),(∀x∈xs,∀c,f c x=(x,[]))->kH f c xs=(xs,[])
 | [],c,_=>rfl
 | x :: xs,c,h=>by
   simp only[kH,h x qe,length_nil,Nat.add_zero,TT xs c fun y Y=>h y (by simp[Y]),nil_append]
theorem xG (h:Flat x) (d c:Nat):pG d c x=(x,[]):=je
theorem aDt (h:Flat x) (d c:Nat):CT d c x=(x,[]):=by
 cases h<;>grind [CT,TT,xG,Flat.v,Flat.sl,Flat.cl,Flat.ip,Flat.rL,Flat.cY]
theorem Lf (h:Flat x) (d c:Nat):XN d c x=(x,[]):=by
 cases h<;>grind [XN,TT,aDt,Flat.agg,Flat.v,Flat.sl,Flat.cl,Flat.ip,Flat.rL]
def PV {h0:Nat->Obj->Prop} {w w':World} {r:AV} (W:Flat r) (h:cD (bare (newHs h0 w w' [])) r v):FX h0 w w' r v :=
 ⟨[],qe,qe,qe,fun d c=>by rw[Lf W];rfl,fun D d c l _=>by
  rw[Lf W];exact⟨h.flat W l,qe⟩⟩
def lU.base {w:World} {X:Nat} {e:mH} (h:lU C w b v e) (hb:X<=b):lU C w X v e:=by
 cases e with
 | cells cs=>obtain⟨k,arr,T,J,h2,S⟩:=h;exact⟨k,arr,T,J,Nat.le_trans hb h2,S⟩
 | row e sz n cs=>obtain⟨xs,p,G⟩:=h;exact⟨xs,wX p hb,G⟩
 | map es=>obtain⟨k,arr,T,J,h2,S⟩:=h;exact⟨k,arr,T,J,Nat.le_trans hb h2,S⟩
def Hw {w:World} {b':Nat} (h:kK w b e sz v n xs) (hb:∀k,cW v=some k->b'<=k):kK w b' e sz v n xs:=by
 refine⟨h.1, ?_⟩
 rcases h.2 with h|⟨g,cap,cur,rfl,h1,h2,S,X,C,r,G⟩
 ·exact .inl h
 ·exact .inr ⟨g,cap,cur,rfl,hb g (gK G),h2,S,X,C,r,G⟩
def jY {α:Type}:∀(l:List (Option α)) (r:List α),bM l=some r->l=r.map some
 | [],r,h=>by grind [bM]
 | none :: l,r,h=>by simp[bM] at h
 | some x :: l,r,h=>by
   simp only[bM,Option.map_eq_some_iff] at h;obtain⟨r',G,rfl⟩:=h
   rw[jY l r' G];rfl
section
variable {P:Program} {h0:Nat->Obj->Prop} {w0:World} {F:Jb} {nt:Nat} {ρ:Nat->Nat->Value} {st:St} {a:Act} {w:World}
def Ge (h0:Nat->Obj->Prop) (w0 w:World):Nat->Obj->Prop:=fun b o=>w.heap[b]? = some o/\(b<w0.heap.size->h0 b o)
theorem Cd {base:Nat} (l:∀b o,cW v=some b->base<=b->w.heap[b]? = some o->D.h b o) (h:kK w base e sz v n xs) (G:dN D cs xs):cD D (.sl n cs) v:=by
 rcases h.2 with ⟨p,rfl,M⟩|⟨g,cap,cur,rfl,hb,hg,W,_,Tq,ht,A⟩
 ·subst M;have:xs.length=0:=by rw[h.1];simp
  have:=G.len
  grind [cD.QR]
 ·have hl:=G.len
  have hx:=h.1
  have hle:n * sz<=cap * sz:=Nat.mul_le_mul_right _ W
  refine .sl n cs g 0 cap cur e (0,0) W (l g _ (gK A) hb hg) WF (fun i x y Kh Y=>?_) (fun i y hi Y=>?_)
  ·grind [dN.rel]
  ·refine G.one i y ?_
   grind
theorem dN.flat {C D:Ctx} {cs:List AV} {ys:List Value} (h:dN C cs ys) (W:∀c∈cs,Flat c) (u:∀b o,C.h b o->D.h b o):dN D cs ys :=
 ⟨h.len,fun i x y N Y=>(h.rel i x y N Y).flat (W x (mem_of_getElem? N)) u,h.one⟩
theorem Gf (b:Nat) (o:Obj) (h:(ctx h0 w0 ρ st w).h b o):(bare (Ge h0 w0 w)).h b o:=⟨h.1,h.2.1⟩
theorem aNU (S:kI F h0 w0 nt ρ st a w) {s g o N:Nat} (he:st.heap s g=some (.row e sz N cs)) (W:∀c∈cs,Flat c) (hle:o+n * sz<=cs.length) (hu:cD (ctx h0 w0 ρ st w) (.vw s g o n) v):cD (bare (Ge h0 w0 w)) (.sl n ((cs.drop o).take (n * sz))) v:=by
 obtain⟨_,ho1,xs,ho,G⟩:=S.tG s g _ he
 cases hu with
 | vw _ _ _ _ b cap hg hb nM _ =>
   change cW (ρ s g)=some b at hb
   rcases ho.2 with ⟨p,m,hn⟩|⟨X,DF,cur,m,Pn,u,_,_,_,ht,A⟩
   ·exfalso
    rw[m] at hb;cases p<;>cases hb
   ·rw[m,gK A] at hb;simp only[cQ] at hb;subst hb;have hc':=G.flat (D:=bare (Ge h0 w0 w)) W Gf
    have hl:=G.len
    have hxl:xs.length<=cur.size:=qg
    have aK4:∀i,i<n * sz->cur[o+i]? = xs[o+i]?:=fun i hi=>by
     grind
    refine .sl _ _ X o cap cur e (0,0) nM ⟨u,fun bB=>WF⟩ qs (fun i x y hx Y=>?_) (fun i y hi Y=>?_)
    all_goals grind [dN.rel,dN.one]
theorem A9 (S:kI F h0 w0 nt ρ st a w) (hu:cD (ctx h0 w0 ρ st w) x v) (h:sS st x=some y):cD (bare (Ge h0 w0 w)) y v:=by
 unfold sS at h;split at h
 ·grind [cD.flat,Gf]
 ·split at h
  ·split at h
   ·rename_i e sz n cs he;split at h
    ·rename_i W;simp only[cQ] at h;subst h;obtain⟨_,ho1,xs,p,G⟩:=S.tG _ _ _ he
     cases hu with
     | own s g hg h1=>exact Cd (fun b o _ hb m=>⟨m,fun bB=>WF⟩) p (G.flat W Gf)
    ·cases h
   ·cases h
  all_goals grind [aNU]
theorem W8 (h:sS st x=some y):Flat y:=by
 unfold sS at h;grind [Flat.sl]
theorem yV (S:kI F h0 w0 nt ρ st a w) (hu:cD (ctx h0 w0 ρ st w) x v) (h:cO st x=some y):cD (bare (Ge h0 w0 w)) y v/\(v.oneCell'=true\/y=x):=by
 unfold cO at h;split at h
 ·grind [cD.flat,Gf]
 ·split at h
  ·rename_i s g _;split at h
   ·rename_i e sz n cs he;split at h
    ·rename_i W;simp only[cQ] at h;subst h;obtain⟨_,ho1,xs,p,G⟩:=S.tG s g _ he
     cases hu with
     | own s g hg J=>exact⟨Cd (fun b o _ hb m=>⟨m,fun A=>WF⟩) p (G.flat W Gf),.inl J⟩
    ·cases h
   ·cases h
  ·rename_i s g o n _;split at h
   ·rename_i e sz N cs he;split at h
    ·rename_i W;obtain⟨W,hle⟩:=W
     simp only[cQ] at h;subst h;cases hu with
     | vw _ _ _ _ b cap hg hb nM r=>exact⟨aNU S he W hle (.vw s g o n b cap hg hb nM r),.inl rfl⟩
    ·cases h
   ·cases h
  ·rename_i s g off _;split at h
   ·rename_i cs he;simp only[Option.map_eq_some_iff] at h;obtain⟨ds,M,rfl⟩:=h
    have hm:=jY _ _ M
    have hlen:ds.length=cs.length:=yu
    obtain⟨_,_,X,arr,T,lP,wQ,u,G⟩:=S.tG s g _ he
    cases hu with
    | ptr s g off b hg hb =>
      have l:X=b:=by
       have h2:cW (ρ s g)=some b:=hb
       grind [cW]
      subst l;have hl:=G.len
      simp only[Array.length_toList] at hl;have:=cD.ip (C:=bare (Ge h0 w0 w)) ds off X 0 arr T (0,0) ⟨u,fun A=>WF⟩ WF (fun i x y hx Y=>by
       have hi:i<cs.length:=qg
       have R:sS st cs[i]=some x:=by
        have:=congrArg (·[i]?) hm
        grind
       exact A9 S (G.rel i cs[i] y zq xn) R) (fun i y hi Y=>G.one i y xn)
      rw[Nat.zero_add] at this;exact⟨this,.inl rfl⟩
   ·cases h
  ·cases h
theorem Qj (S:kI F h0 w0 nt ρ st a w) (hu:cD (ctx h0 w0 ρ st w) x v) (h:eE st x=some y):cD (bare (Ge h0 w0 w)) y v:=by
 unfold eE at h;split at h
 ·grind [cD.flat,Gf]
 ·split at h
  ·rename_i cs _;simp only[Option.map_eq_some_iff] at h;obtain⟨ds,M,rfl⟩:=h
   have hm:=jY _ _ M
   cases hu with
   | agg cs p W X J =>
     have hlen:ds.length=cs.length:=yu
     refine .agg ds p WF (fun i x y N Y=>?_) J
     have hi:i<cs.length:=qg
     have R:cO st cs[i]=some x:=by
      have:=congrArg (·[i]?) hm
      grind
     exact (yV S (X i cs[i] y zq Y) R).1
  ·rename_i f G _;simp only[Option.map_eq_some_iff] at h;obtain⟨ds,M,rfl⟩:=h
   have hm:=jY _ _ M
   cases hu with
   | rL f cs p W X =>
     have hlen:ds.length=G.length:=yu
     refine .rL f ds p WF (fun i x y N Y=>?_)
     have hi:i<G.length:=qg
     have R:cO st G[i]=some x:=by
      have:=congrArg (·[i]?) hm
      grind
     exact (yV S (X i G[i] y zq Y) R).1
  ·exact (yV S hu h).1
theorem qK {α β:Type} {p:β->Prop} {f:α->Option β} (hp:∀a b,f a=some b->p b):∀(l:List α) (r:List β),bM (l.map f)=some r->∀b∈r,p b
 | [],r,h=>by grind [bM]
 | a :: l,r,h=>by
   simp only[map_cons] at h;cases Y:f a with
   | none=>simp[Y,bM] at h
   | some b =>
     simp only[Y,bM,Option.map_eq_some_iff] at h;obtain⟨r',h',rfl⟩:=h
     intro c G;rcases mem_cons.1 G with rfl|G
     ·exact hp _ _ Y
     ·exact qK hp l r' h' c G
theorem Ce (h:cO st x=some y):Flat y:=by
 unfold cO at h;split at h
 ·grind
 ·split at h
  ·grind [Flat.sl]
  ·grind [Flat.sl]
  ·split at h
   ·simp only[Option.map_eq_some_iff] at h;obtain⟨ds,M,rfl⟩:=h
    exact .ip _ _ (qK (fun a b h=>W8 h) _ _ M)
   ·cases h
  ·cases h
theorem Ni (h:eE st x=some y):Flat y:=by
 unfold eE at h;split at h
 ·grind
 ·split at h
  ·simp only[Option.map_eq_some_iff] at h;obtain⟨ds,M,rfl⟩:=h
   exact .agg _ (qK (fun a b h=>Ce h) _ _ M)
  ·simp only[Option.map_eq_some_iff] at h;obtain⟨ds,M,rfl⟩:=h
   exact .rL _ _ (qK (fun a b h=>Ce h) _ _ M)
  ·exact Ce h
theorem Zk (S:kI F h0 w0 nt ρ st a w) (hu:cD (ctx h0 w0 ρ st w) x v) (h:Et st x=some y):cD (bare (Ge h0 w0 w)) y v:=by
 unfold Et at h;split at h
 ·rename_i s g;split at h
  ·rename_i e sz n cs he;simp only[Option.map_eq_some_iff] at h;obtain⟨ds,M,rfl⟩:=h
   have hm:=jY _ _ M
   obtain⟨_,ho1,xs,p,G⟩:=S.tG s g _ he
   cases hu with
   | own s g hg h1 =>
     have hlen:ds.length=cs.length:=yu
     refine Cd (fun b o _ hb m=>⟨m,fun bB=>WF⟩) p ⟨by rw[hlen];exact G.len,fun i x y hx Y=>?_,G.one⟩
     have hi:i<cs.length:=qg
     have R:cO st cs[i]=some x:=by
      have:=congrArg (·[i]?) hm
      grind
     exact (yV S (G.rel i cs[i] y zq Y) R).1
  ·cases h
 ·exact (yV S hu h).1
theorem B0 (S:kI F h0 w0 nt ρ st a w) (hu:cD (ctx h0 w0 ρ st w) x v) (h:Rr st x=some y):cD (bare (Ge h0 w0 w)) y v:=by
 unfold Rr at h;split at h
 ·rename_i cs;simp only[Option.map_eq_some_iff] at h;obtain⟨ds,M,rfl⟩:=h
  have hm:=jY _ _ M
  cases hu with
  | agg cs p hl X J =>
    have hlen:ds.length=cs.length:=yu
    refine .agg ds p WF (fun i x y hx Y=>?_) J
    have hi:i<cs.length:=qg
    have R:Et st cs[i]=some x:=by
     have:=congrArg (·[i]?) hm
     grind
    exact Zk S (X i cs[i] y zq Y) R
 ·exact Zk S hu h
theorem B4 (S:kI F h0 w0 nt ρ st a w) (hu:cD (ctx h0 w0 ρ st w) x v) (h:Eu st x=some y):cD (bare (Ge h0 w0 w)) y v:=by
 grind [Eu,Qj,B0]
theorem GY (h:Et st x=some y):Flat y:=by
 unfold Et at h;split at h
 ·split at h
  ·simp only[Option.map_eq_some_iff] at h;obtain⟨ds,M,rfl⟩:=h
   exact .sl _ _ (qK (fun a b h=>Ce h) _ _ M)
  ·cases h
 ·exact Ce h
theorem W9 (h:Eu st x=some y):Flat y:=by
 unfold Eu at h;split at h
 ·grind [Ni]
 ·unfold Rr at h;split at h
  ·simp only[Option.map_eq_some_iff] at h;obtain⟨ds,M,rfl⟩:=h
   exact .agg _ (qK (fun a b h=>GY h) _ _ M)
  ·exact GY h
theorem GZ (h:eE st x=some y):Eu st x=some y:=by unfold Eu;rw[h]
theorem X3 (h:eE st x=none):Eu st x=Rr st x:=by unfold Eu;rw[h]
end
end Go.Ab
end
section
namespace Go.Ab
open Classical
variable {C D:Ctx} {cs args ds:List AV} {ys vs:List Value} {b g d k sz n s:Nat} {v:Value} {H:Nat->Obj->Prop} {w':World} {r c:AV} {dst:Option Nat} {e:rI} {t:Bool} {l:List Nat} {call:Nat->List AV->Option AV}
def Lg (es:List mH):Prop:=∀e∈es,∃a b n cs,e=.row a b n cs/\∀c∈cs,cZ c
def HA {x:AV} (h:O5 x) (d c:Nat):Oa (pG d c x).1/\Lg (pG d c x).2:=by
 cases x
 case uniq e sz n cs=>exact⟨.own _ _,fun e he=>by simp[pG] at he;exact⟨_,_,_,_,he,h⟩⟩
 all_goals exact⟨cZ.tm h,fun e he=>by simp[pG] at he⟩
def Qk {f:Nat->AV->AV × List mH}:∀(xs:List AV) (c:Nat),(∀x∈xs,∀c,Oa (f c x).1/\Lg (f c x).2)->(∀y∈(kH f c xs).1,Oa y)/\Lg (kH f c xs).2
 | [],c,_=>⟨by simp[kH],fun e he=>by simp[kH] at he⟩
 | x :: xs,c,h=>by
   obtain⟨h1,h2⟩:=h x qe c
   obtain⟨h3,X⟩:=Qk xs (c+(f c x).2.length) fun y Y=>h y (by simp[Y])
   simp only[kH];refine⟨fun y Y=>?_,fun e he=>?_⟩
   ·grind
   ·rcases mem_append.1 he with he|he
    ·exact h2 e he
    ·exact X e he
def HB {x:AV} (h:O6 x) (d c:Nat):Oa (CT d c x).1/\Lg (CT d c x).2:=by
 cases x
 case agg cs =>
  obtain⟨J,h2⟩:=Qk (f:=pG d) cs c fun x N c=>HA (h x N) d c
  exact⟨.agg _ J,h2⟩
 all_goals
  refine @HA _ ?_ d c
  exact h
def Xf {x:AV} (h:CU x) (d c:Nat):Oa (XN d c x).1/\Lg (XN d c x).2:=by
 cases x
 case cY cs =>
  obtain⟨J,h2⟩:=Qk (f:=CT d) cs c fun x N c=>HB (h x N) d c
  exact⟨.cY _ J,h2⟩
 all_goals
  refine @HB _ ?_ d c
  exact h
def dN.Uc {C D:Ctx} {cs:List AV} {ys:List Value} (h:dN C cs ys) (hm:∀c∈cs,cZ c):dN D cs ys :=
 ⟨h.len,fun i x y N Y=>(h.rel i x y N Y).Uc (hm x (mem_of_getElem? N)),h.one⟩
def lU.free {w:World} {e:mH} (h:lU C w b v e) (W:∃a s n cs,e=.row a s n cs/\∀c∈cs,cZ c):lU D w b v e:=by
 obtain⟨a,s,n,cs,rfl,hm⟩:=W
 obtain⟨xs,p,G⟩:=h
 exact⟨xs,p,G.Uc hm⟩
section
variable {P:Program} {h0:Nat->Obj->Prop} {w0:World} {F:Jb} {nt:Nat} {ρ:Nat->Nat->Value} {st:St} {a:Act} {w:World} {K:Act->World->Prop} {Q:Exit->Act->World->Prop}
theorem PW {xs:List AV} (h:jD C xs vs) (W:∀x∈xs,Flat x) (u:∀b o,C.h b o->D.h b o):jD D xs vs :=
 ⟨h.len,fun i x y N Y=>(h.rel i x y N Y).flat (W x (mem_of_getElem? N)) u⟩
theorem Hx (S:kI F h0 w0 nt ρ st a w) (X:FX H w w' r v) (hg:w.grownBy w' none)
 (R:(∀b o,H b o->(ctx h0 w0 ρ st w).h b o)\/CU r) (h:jH r st dst=some e) (l:∀d,dst=some d->d<nt)
 (hK:∀oZ a' w',kI F h0 w0 nt oZ (e.apply st) a' w'->K a' w'):K (a.put dst v) w':=by
 obtain⟨vs,v1,v2,v3,v4,v5⟩:=X
 unfold jH at h;split at h
 ·rename_i W;simp only[cQ] at h;subst h;have hl:=v4 0 0
  rw[Lf W] at hl;have RI:vs=[]:=length_eq_zero_iff.1 hl.symm
  subst RI;obtain⟨S',k⟩:=S.grow hg
  refine hK ρ _ _ (S'.put dst l ?_)
  rcases R with R|R
  ·have:=(v5 (ctx h0 w0 ρ st w') 0 0 (fun b o hb=>by
    by_cases A:b<w.heap.size
    ·exact k.h _ _ (R _ _ (hb.2.1 A))
    ·exact⟨hb.1,fun h=>ni,fun s g e he=>jI S he WF⟩) qe).1
   grind [Lf]
  ·have:=(v5 ⟨newHs H w w' [],ρ,st.aJ⟩ 0 0 (fun b o hb=>hb) qe).1
   have M:=(Xf R 0 0).1
   rw[Lf W] at this M;exact this.tm M (fun _=>Nat.le_refl _) (fun _ _ _=>rfl)
 ·cases dst with
  | none=>cases h
  | some d =>
    simp only[cQ] at h;subst h;obtain⟨S',k,u,qE⟩:=S.news hg d (XN d (st.aJ d) r).2 vs (v4 _ _) v1 v3 v2 (fun C J hC m i e x hi N=>by
     rcases R with R|R
     ·exact ((v5 C d (st.aJ d) (fun b o hb=>by
       by_cases A:b<w.heap.size
       ·exact J.h _ _ (R _ _ (hb.2.1 A))
       ·exact hC b o WF hb.1 hb.2.2) m).2 i e x hi N).base S.ext.size
     ·have:=((v5 ⟨newHs H w w' vs,C.ρ,C.aJ⟩ d (st.aJ d) (fun b o hb=>hb) m).2 i e x hi N).base S.ext.size
      exact this.free ((Xf R d (st.aJ d)).2 e (mem_of_getElem? hi)))
    refine hK _ _ _ (S'.put (some d) l ?_)
    rcases R with R|R
    ·exact (v5 (ctx h0 w0 (Ir ρ d (st.aJ d) vs) (st.news d (XN d (st.aJ d) r).2) w') d (st.aJ d) (fun b o hb=>by
      by_cases A:b<w.heap.size
      ·exact k.h _ _ (R _ _ (hb.2.1 A))
      ·exact u b o WF hb.1 hb.2.2) qE).1
    ·have:=(v5 ⟨newHs H w w' vs,Ir ρ d (st.aJ d) vs,(st.news d (XN d (st.aJ d) r).2).aJ⟩ d (st.aJ d) (fun b o hb=>hb) qE).1
     exact this.tm (Xf R d (st.aJ d)).1 (fun _=>Nat.le_refl _) (fun _ _ _=>rfl)
theorem Ud {P:Program} (h:pU P g args r) (M:∀x∈args,Flat x):Eh P g args r:=by
 unfold pU at h;split at h
 ·rename_i e sz n cs rest;have:=M _ (mem_cons_self ..)
  cases this
 ·exact h
inductive Cw (H:Nat->Obj->Prop) (w':World) (b:Nat):List AV->List Value->List Value->Prop
 | nil:Cw H w' b [] [] []
 | flat {c:AV} {y:Value} {cs:List AV} {ys vs:List Value} (hf:Flat c) (h:cD (bare H) c y) (k:Cw H w' b cs ys vs):Cw H w' b (c :: cs) (y :: ys) vs
 | row {e sz n:Nat} {ds:List AV} {y:Value} {xs:List Value} {cs:List AV} {ys vs:List Value} (ho:kK w' b e sz y n xs) (hf:∀d∈ds,Flat d) (hc:dN (bare H) ds xs) (k:Cw H w' b cs ys vs):Cw H w' b (.uniq e sz n ds :: cs) (y :: ys) (y :: vs)
theorem Cw.of {D:Ctx} {w':World} {b d:Nat}:∀(cs:List AV) (c:Nat) (ys vs:List Value),(∀x∈cs,Yq x)->jD D (kH (pG d) c cs).1 ys->(kH (pG d) c cs).2.length=vs.length ->
 (∀(i:Nat) (x:Value),vs[i]? = some x->D.ρ d (c+i)=x)->(∀(i:Nat) (e:mH) (x:Value),(kH (pG d) c cs).2[i]? = some e->vs[i]? = some x->lU D w' b x e)->Cw D.h w' b cs ys vs
 | [],c,ys,vs,_,J,h2,_,_=>by
   have e1:=J.len
   grind [nil,kH]
 | x :: cs,c,ys,vs,p,J,h2,S,X=>by
   cases ys with
   | nil=>have:=J.len;simp[kH] at this
   | cons y ys =>
     by_cases W:Flat x
     ·have e0:=xG W d c
      simp only[kH,e0,length_nil,Nat.add_zero,nil_append] at J h2 X;exact .flat W (J.head.flat W fun _ _ h=>h) (Cw.of cs c ys vs (fun z R=>p z ct) J.tail h2 S X)
     ·have N:=p x qe
      cases x with
      | uniq e sz n ds =>
        cases vs with
        | nil=>simp[kH,pG] at h2
        | cons u vs =>
          simp only[kH,pG,length_cons,length_nil,Nat.zero_add,cons_append,nil_append] at J h2 X;have hu:=S 0 u rfl
          have Y:y=u:=by
           have:=J.head
           cases this
           exact hu
          subst Y;obtain⟨xs,m,o2⟩:=X 0 _ _ rfl rfl
          refine .row m N (o2.flat N fun _ _ h=>h) (Cw.of cs (c+1) ys vs (fun z R=>p z ct) J.tail oo (fun i z R=>?_) fun i e' z he R=>X (i+1) e' z (by simpa using he) (by simpa using R))
          have:=S (i+1) z (by simpa using R)
          grind
      | _=>exact absurd N W
def Ob (t:Bool) (l:List Nat):Nat->List AV->List Value->List Value
 | k,.uniq _ _ _ _ :: cs,v :: vs=>if l.contains k=t then v :: Ob t l (k+1) cs vs else Ob t l (k+1) cs vs
 | k,_ :: cs,vs=>Ob t l (k+1) cs vs
 | _,[],_=>[]
theorem Nj (h:Flat c):Ob t l k (c :: cs) vs=Ob t l (k+1) cs vs:=by
 cases h<;>(cases vs<;>rfl)
theorem Ue {e:Nat}:Ob t l k (.uniq e sz n ds :: cs) (v :: vs)=if l.contains k=t then v :: Ob t l (k+1) cs vs else Ob t l (k+1) cs vs:=rfl
theorem Cw.sub (h:Cw H w' b cs ys vs):∀k,(Ob t l k cs vs).Sublist vs:=by
 induction h with
 | nil=>exact fun k=>.refl _
 | flat hf _ _ S=>grind [Nj]
 | row _ _ _ _ S =>
   grind [Ue]
theorem Wq {b:Bool} (h:Flat c):O7 b c=c:=je
def Dj (x y:Value):Prop:=∀b,cW x=some b->cW y≠some b
theorem Cw.dis (h:Cw H w' b cs ys vs):∀k,vs.Pairwise Dj->∀u∈Ob false l k cs vs,∀x∈Ob true l k cs vs,Dj u x:=by
 induction h with
 | nil=>intro k _ u hu;cases hu
 | flat hf _ _ S=>grind [Nj]
 | row _ _ _ R S =>
   intro k hp u hu x N;obtain⟨X,p2⟩:=pairwise_cons.1 hp
   rw[Ue] at hu N;cases hb:l.contains k with
   | true =>
     rw[hb,if_neg ZB] at hu
     rw[hb,if_pos rfl] at N;rcases mem_cons.1 N with rfl|N
     ·exact fun g J h2=>X u ((R.sub _).subset hu) g h2 J
     grind
   | false =>
     grind [sub]
theorem aP1 {w:World} {e:Nat} {xs:List Value} (ho:kK w b e sz v n xs) (G:dN C ds xs) (hh:∀g o,cW v=some g->w.heap[g]? = some o->C.h g o):cD C (.sl n ds) v:=by
 rcases ho.2 with ⟨p,rfl,rfl⟩|⟨g,cap,cur,rfl,_,h2,h3,_,_,h6,yX⟩
 ·have W:xs=[]:=length_eq_zero_iff.1 (by rw[ho.1,Nat.zero_mul])
  subst W;have W:ds=[]:=length_eq_zero_iff.1 G.len
  grind [cD.QR]
 ·have hx:∀(i:Nat) (y:Value),i<ds.length->cur[0+i]? = some y->xs[i]? = some y:=fun i y hi hy=>by
   grind [dN.len]
  grind [cD.sl,gK,dN.rel,dN.one,length_take,dN.len]
theorem Cw.to (R:∀b o,H b o->D.h b o) (h:Cw H w' b cs ys vs):∀(k c:Nat),
 (∀u∈Ob false l k cs vs,∀g o,cW u=some g->w'.heap[g]? = some o->D.h g o)->(∀(i:Nat) (x:Value),(Ob true l k cs vs)[i]? = some x->c+i<D.aJ d/\D.ρ d (c+i)=x) ->
 jD D (kH (pG d) c (Ja l k cs)).1 ys/\∀(i:Nat) (e:mH) (x:Value),(kH (pG d) c (Ja l k cs)).2[i]? = some e->(Ob true l k cs vs)[i]? = some x->lU D w' b x e:=by
 induction h with
 | nil=>grind [jD.nil,Ja,kH]
 | flat W X _ S =>
   intro k c hb m;rw[Nj W] at hb m ⊢;obtain⟨i1,i3⟩:=S (k+1) c hb m
   simp only[Ja,kH];rw[Wq W,xG W];exact⟨.cons (X.flat W R) i1,i3⟩
 | row p W G _ S =>
   intro k c hb m;rw[Ue] at hb m ⊢;simp only[Ja,kH,O7];cases ht:l.contains k with
   | true =>
     rw[ht,if_neg ZB] at hb
     rw[ht,if_pos rfl] at m;simp only[if_true,pG,length_cons,length_nil,Nat.zero_add];obtain⟨k1,k2⟩:=m 0 _ rfl
     obtain⟨i1,i3⟩:=S (k+1) (c+1) hb (fun i x N=>by
      have:=m (i+1) x (by simpa using N)
      grind)
     refine⟨.cons ?_ i1,fun i e' x he N=>?_⟩
     ·grind [cD.own,pI]
     ·match i with
      | 0 =>
        simp only[cons_append,getElem?_cons_zero,cQ] at he N;subst he;subst N;exact⟨_,p,⟨G.len,fun i x y J h2=>(G.rel i x y J h2).flat (W x (mem_of_getElem? J)) R,G.one⟩⟩
      | i+1=>grind
   | false =>
     rw[ht,if_pos rfl] at hb;rw[ht,if_neg ZB] at m
     simp only[Bool.false_eq_true,if_false,pG,length_nil,Nat.add_zero,nil_append];obtain⟨i1,i3⟩:=S (k+1) c (fun u hu=>hb u (mem_cons_of_mem _ hu)) m
     exact⟨.cons (aP1 p ⟨G.len,fun i x y J h2=>(G.rel i x y J h2).flat (W x (mem_of_getElem? J)) R,G.one⟩ (hb _ (mem_cons_self ..))) i1,i3⟩
theorem aK5 (l:List Nat) (d:Nat) (h:Cw H w' b cs ys vs):∀k c,(kH (pG d) c (Ja l k cs)).2.length=(Ob true l k cs vs).length:=by
 induction h with
 | nil=>exact fun k c=>rfl
 | flat hf _ _ S =>
   grind [Nj,Ja,kH,Wq,xG]
 | row _ _ _ _ S =>
   grind [Ue,Ja,kH,O7,pG]
theorem aHf {h0:Nat->Obj->Prop} {w:World} (l:List Nat) (p:∀x∈cs,Yq x) (h:FX h0 w w' (.agg cs) v):FX h0 w w' (.agg (Ja l 0 cs)) v:=by
 obtain⟨vs,v1,v2,v3,v4,v5⟩:=h
 obtain⟨G,C⟩:=v5 ⟨newHs h0 w w' vs,fun _ i=>vs.getD i undef,fun _=>vs.length⟩ 0 0 (fun _ _ h=>h) (fun i x N=>by
  grind)
 have e0:XN 0 0 (.agg cs)=(.agg (kH (pG 0) 0 cs).1,(kH (pG 0) 0 cs).2):=rfl
 rw[e0] at G C;have W:=v4 0 0
 rw[e0] at W;generalize ha:(kH (pG 0) 0 cs).1=aS at G
 cases G with
 | agg _ a M X J =>
   subst ha;have r:=Cw.of (D:=⟨newHs h0 w w' vs,fun _ i=>vs.getD i undef,fun _=>vs.length⟩) (w':=w') (b:=w.heap.size) (d:=0) cs 0 a.toList vs p ⟨by simpa using M,fun i x y N Y=>X i x y N xn⟩ W (fun i x N=>by
    grind) C
   have hp:vs.Pairwise Dj:=pairwise_iff_getElem.2 fun i j hi hj hij g J h2=>by
    have:=v2 i j _ _ g (getElem?_eq_getElem hi) (getElem?_eq_getElem hj) J h2
    omega
   have sb:=r.sub (t:=true) (l:=l) 0
   refine⟨Ob true l 0 cs vs,fun x N=>v1 x (sb.subset N),fun i j x y b N Y S A=>?_,fun x N=>v3 x (sb.subset N),fun d c=>aK5 l d r 0 c,fun D d c hD m=>?_⟩
   ·have hs:=List.Pairwise.sublist sb hp
    rw[pairwise_iff_getElem] at hs;obtain⟨hi,rfl⟩:=List.getElem?_eq_some_iff.1 N
    obtain⟨hj,rfl⟩:=List.getElem?_eq_some_iff.1 Y
    rcases Nat.lt_trichotomy i j with g|g|g
    ·exact absurd A (hs i j hi hj g b S)
    ·exact g
    ·exact absurd S (hs j i hj hi g b A)
   ·have R:∀b o,newHs h0 w w' vs b o->D.h b o:=fun b o hb=>hD b o ⟨hb.1,hb.2.1,fun x N=>hb.2.2 x (sb.subset N)⟩
    obtain⟨i1,i2⟩:=r.to R 0 c (fun u hu g o hg hgo=>hD g o ⟨hgo,fun bB=>absurd (v3 u ((r.sub 0).subset hu) g hg) WF,fun x N S=>r.dis 0 hp u hu x N g hg S⟩) m
    refine⟨.agg _ a (by rw[i1.len];simp) (fun i x y N Y=>i1.rel i x y N xn) J,i2⟩
theorem mN.fz {P:Program} (h:mN P call) (l:List Nat):mN P (Oo l call):=fun g xs r X=>by
 unfold Oo at X;split at X
 ·rename_i W;cases G:call g xs with
  | none=>rw[G] at X;cases X
  | some r0 =>
    rw[G] at X;obtain⟨J,h2⟩:=h g xs r0 G
    have S:=Ud h2 W
    have h4:Eh P g xs r:=by
     cases r0 with
     | agg cs =>
       simp only[cT,frz] at X;split at X
       ·rename_i p;cases X
        exact fun w h0 vs a b=>(S w h0 vs a b).mono fun e w' ⟨v,A,M,C⟩=>⟨v,A,aHf l p M,C⟩
       ·cases X
     | _=>cases X
    refine⟨J, ?_⟩
    unfold pU;split
    ·rename_i e sz n cs rest;have:=W _ (mem_cons_self ..)
     cases this
    ·exact h4
 ·cases X
theorem mN.CV {P:Program} {call:Nat->List AV->Option AV} (h:mN P call) (l:Option (List Nat)):mN P (CV l call):=by
 cases l with
 | none=>exact h
 | some l=>exact h.fz l
theorem An (S:kI F h0 w0 nt ρ st a w) (A:mN P call) {vs:Array Value}
 (h:aO call g args st dst=some e) (J:jD (ctx h0 w0 ρ st w) args vs.toList) (l:∀d,dst=some d->d<nt)
 (C:∀N u w',kI F h0 w0 nt N (e.apply st) u w'->K u w') :
 Enters P g/\Calls P g vs w fun en w'=>∃v,en=.returned v/\K (a.put dst v) w':=by
 unfold aO at h;split at h
 ·rename_i W;cases G:call g args with
  | none=>simp[G,cT] at h
  | some r =>
    obtain⟨p,hs⟩:=A g args r G
    refine⟨p, ?_⟩
    simp only[G,cT] at h;refine ((Ud hs W) w (ctx h0 w0 ρ st w).h vs (fun b o hb=>hb.1) (PW J W fun b o hb=>hb)).mono ?_
    rintro en w' ⟨v,rfl,X,hg⟩
    exact⟨v,rfl,Hx S X hg (.inl fun b o hb=>hb) h l C⟩
 ·split at h
  ·rename_i xs m;cases G:call g xs with
   | none=>simp[G,cT] at h
   | some r =>
     obtain⟨p,hs⟩:=A g xs r G
     refine⟨p, ?_⟩
     simp only[G,cT] at h;split at h
     ·rename_i hm;have M:=jY _ _ m
      have D:∀x∈xs,Flat x:=qK (fun a b h=>Ni h) _ _ m
      have hlen:xs.length=args.length:=zt
      have Uf:jD (bare (Ge h0 w0 w)) xs vs.toList:=⟨by rw[hlen];exact J.len,fun i x y hx Y=>by
       have hi:i<args.length:=qg
       have R:eE st args[i]=some x:=by
        have:=congrArg (·[i]?) M
        grind
       exact Qj S (J.rel i args[i] y zq Y) R⟩
      refine ((Ud hs D) w (Ge h0 w0 w) vs (fun b o hb=>hb.1) Uf).mono ?_
      rintro en w' ⟨v,rfl,X,hg⟩
      exact⟨v,rfl,Hx S X hg (.inr hm) h l C⟩
     ·cases h
  ·cases h
theorem kI.drop (S:kI F h0 w0 nt ρ st a w) (s k:Nat):kI F h0 w0 nt ρ (st.gV s k none) a w/\(ctx h0 w0 ρ st w).Le (ctx h0 w0 ρ (st.gV s k none) w):=by
 have hs:∀D g' e,(st.gV s k none).heap D g'=some e->st.heap D g'=some e:=fun D g' e h=>by
  grind [St.gV]
 have kk:(ctx h0 w0 ρ st w).Le (ctx h0 w0 ρ (st.gV s k none) w):=⟨fun b o hb=>⟨hb.1,hb.2.1,fun D g' e he=>hb.2.2 D g' e (hs D g' e he)⟩,fun _=>Nat.le_refl _,fun _ _ _=>rfl⟩
 exact⟨⟨fun t=>(S.env t).le kk,fun D g' e he=>⟨(S.tG D g' e (hs D g' e he)).1,(S.tG D g' e (hs D g' e he)).2.1,lU.world (r:=none) (S.tG D g' e (hs D g' e he)).2.2 kk ⟨rfl,rfl,rfl,Nat.le_refl _,fun _ _ _=>rfl⟩ (by cases cW (ρ D g')<;>simp)⟩,
  fun s1 g1 s2 g2 A M b J h2=>S.inj s1 g1 s2 g2 A M b (hs _ _ _ J) (hs _ _ _ h2),S.ext,S.size,S.defers,⟨fun x v h=>(S.Rk.1 x v h).le kk,fun b o h=>kk.h b o (S.Rk.2.1 b o h),S.Rk.2.2⟩⟩,kk⟩
theorem aXS (S:kI F h0 w0 nt ρ st a w) {y:AV} (G:Flat c\/c=.own s k) (hu:cD (ctx h0 w0 ρ st w) c v) (h:cO st c=some y):cD (bare (ctx h0 w0 ρ (st.gV s k none) w).h) y v/\(v.oneCell'=true\/y=c):=by
 have kk:=(S.drop s k).2
 rcases G with W|rfl
 ·unfold cO at h;rw[if_pos W] at h;simp only[cQ] at h;subst h;exact⟨hu.flat W kk.h,.inr rfl⟩
 ·unfold cO at h;rw[if_neg ym] at h
  simp only at h
  split at h
  ·rename_i e sz n cs he;split at h
   ·rename_i W;simp only[cQ] at h;subst h;obtain⟨_,ho1,xs,p,G⟩:=S.tG s k _ he
    cases hu with
    | own s g hg J =>
      refine⟨Cd (fun b o C hb m=>⟨m,fun bB=>WF,fun D g' e' R l=>?_⟩) p (G.flat W kk.h),.inl J⟩
      simp only[St.gV] at R
      split at R
      ·cases R
      ·rename_i mC;have:=S.inj D g' s k e' _ b R he l C
       exact mC this
   ·cases h
  ·cases h
theorem aHg (S:kI F h0 w0 nt ρ st a w) {x y:AV} (N:ox x) (R:∀p∈jB x,p=(s,k)) (hu:cD (ctx h0 w0 ρ st w) x v) (h:eE st x=some y):cD (bare (ctx h0 w0 ρ (st.gV s k none) w).h) y v:=by
 have kk:=(S.drop s k).2
 by_cases W:Flat x
 ·unfold eE at h;rw[if_pos W] at h;simp only[cQ] at h;subst h;exact hu.flat W kk.h
 ·rcases N with N|⟨D,A,rfl⟩|⟨cs,rfl,Tq⟩
  ·exact absurd N W
  ·have:=R (D,A) (by simp[jB,gP])
   grind [eE,aXS]
  ·have G:∀c∈cs,Flat c\/c=.own s k:=fun c G=>by
    rcases Tq c G with h|⟨D,A,rfl⟩
    ·exact .inl h
    ·have:=R (D,A) (by grind [jB,gP])
     grind
   unfold eE at h;rw[if_neg W] at h;simp only[Option.map_eq_some_iff] at h;obtain⟨ys,C,rfl⟩:=h
   have M:=jY _ _ C
   have hlen:ys.length=cs.length:=zt
   cases hu with
   | agg _ arr hl hr J =>
     refine .agg ys arr WF (fun i y z hy hz=>?_) J
     have hi:i<cs.length:=qg
     have Kh:cO st cs[i]=some y:=by
      have:=congrArg (·[i]?) M
      grind
     grind [aXS,getElem_mem]
theorem PX (h:Dv r st dst s k=some e):∃e0,jH r st dst=some e0/\e0.dE=none/\e={ e0 with dE:=some (s,k,none)}:=by
 obtain⟨e0,h0,rfl⟩:=Option.map_eq_some_iff.1 h
 refine⟨e0,h0, ?_,rfl⟩
 unfold jH at h0;grind
theorem LM (S:kI F h0 w0 nt ρ st a w) (A:mN P call) {vs:Array Value}
 (h:eH call g args st dst=some e) (J:jD (ctx h0 w0 ρ st w) args vs.toList) (l:∀d,dst=some d->d<nt)
 (C:∀N u w',kI F h0 w0 nt N (e.apply st) u w'->K u w') :
 Enters P g/\Calls P g vs w fun en w'=>∃v,en=.returned v/\K (a.put dst v) w':=by
 unfold eH at h;split at h
 ·rename_i s k PS;split at h
  ·rename_i R;split at h
   ·rename_i xs m;cases G:call g xs with
    | none=>simp[G,cT] at h
    | some r =>
      obtain⟨O4,hs⟩:=A g xs r G
      refine⟨O4, ?_⟩
      simp only[G,cT] at h;obtain⟨e0,hp,hu,rfl⟩:=PX h
      have M:=jY _ _ m
      have D:∀x∈xs,Flat x:=qK (fun a b h=>Ni h) _ _ m
      have hlen:xs.length=args.length:=zt
      obtain⟨S1,kk⟩:=S.drop s k
      have W:jD (bare (ctx h0 w0 ρ (st.gV s k none) w).h) xs vs.toList:=⟨by rw[hlen];exact J.len,fun i x y hx Y=>by
       have hi:i<args.length:=qg
       have Kh:eE st args[i]=some x:=by
        have:=congrArg (·[i]?) M
        grind
       refine aHg S (R _ (getElem_mem hi)) (fun p hp=>?_) (J.rel i args[i] y zq Y) Kh
       have:p∈args.flatMap jB:=mem_flatMap.2 ⟨_,getElem_mem hi,hp⟩
       grind⟩
      refine ((Ud hs D) w (ctx h0 w0 ρ (st.gV s k none) w).h vs (fun b o hb=>hb.1) W).mono ?_
      rintro en w' ⟨v,rfl,X,hg⟩
      refine⟨v,rfl,Hx (e:=e0) S1 X hg (.inl fun b o hb=>hb) hp l (fun N u w2 hS=>C N u w2 ?_)⟩
      grind [rI.apply]
   ·cases h
  ·cases h
 ·exact An S A h J l C
theorem TV (S:kI F h0 w0 nt ρ st a w) (lM:mN P call) {vs:Array Value}
 (h:kU call g args st dst=some e) (J:jD (ctx h0 w0 ρ st w) args vs.toList) (l:∀d,dst=some d->d<nt)
 (hK:∀N u w',kI F h0 w0 nt N (e.apply st) u w'->K u w') :
 Enters P g/\Calls P g vs w fun en w'=>∃v,en=.returned v/\K (a.put dst v) w':=by
 unfold kU at h;split at h
 ·rename_i s k rest;split at h
  ·rename_i e0 sz n cs he;split at h
   ·rename_i Tq;obtain⟨Tq,hfr⟩:=Tq
    have RI:∃v0 vr,vs=#[v0]++vr/\cD (ctx h0 w0 ρ st w) (.own s k) v0/\jD (ctx h0 w0 ρ st w) rest vr.toList:=by
     have hl:=J.len
     cases hv:vs.toList with
     | nil=>grind
     | cons v0 vr =>
       rw[hv] at J;refine⟨v0,vr.toArray, ?_,J.head,by simpa using J.tail⟩
       grind
    obtain⟨v0,vr,rfl,hv0,hrest⟩:=RI
    have hv0':v0=ρ s k:=by cases hv0;rfl
    subst hv0'
    obtain⟨hk1,hk2,ys,p,pA⟩:=S.tG s k _ he
    have run:∀r,call g (.uniq e0 sz n cs :: rest)=some r->Enters P g /\
     Calls P g (#[ρ s k]++vr) w fun en w'=>∃v,en=.returned v/\w.grownBy w' (cW (ρ s k)) /\
      match r with
      | .uniq e' vK W Y=>∃D,kK w' 0 e' vK v W D/\dN (bare (ctx h0 w0 ρ st w).h) Y D/\∀b,cW v=some b->cW (ρ s k)=some b\/w.heap.size<=b
      | .cY [.uniq e' vK W Y]=>v=.tuple #[]/\∃D,kK w' 0 e' vK (ρ s k) W D/\dN (bare (ctx h0 w0 ρ st w).h) Y D
      | _=>False:=by
     intro r X;obtain⟨O4,hs⟩:=lM _ _ _ X
     refine⟨O4, ?_⟩
     have hs:TS P g e0 sz n cs rest r:=hs
     exact hs w (ctx h0 w0 ρ st w).h (ρ s k) ys vr (fun b o hb=>hb.1) (fun b o hb=>hb.2.2 s k _ he) (wX p (Nat.zero_le _)) (pA.flat Tq fun b o hb=>hb) (PW hrest hfr fun b o hb=>hb)
    have bareLe:∀C:Ctx,(ctx h0 w0 ρ st w).Le C->(bare (ctx h0 w0 ρ st w).h).Le C:=fun C kC=>⟨kC.h,fun _=>Nat.zero_le _,fun _ _ h=>absurd h (by simp[bare])⟩
    have vE:∀b,cW (ρ s k)=some b->w0.heap.size<=b:=fun b hb=>(As p b hb).1
    split at h
    ·rename_i e' vK W Y X
     obtain⟨O4,G⟩:=run _ X
     refine⟨O4,G.mono ?_⟩
     rintro en w' ⟨v,rfl,hg,D,R,hzc,hzb⟩
     cases dst with
     | none=>cases h
     | some d =>
       simp only[cQ] at h;subst h;refine⟨v,rfl, ?_⟩
       obtain⟨M,kk,qE⟩:=S.QS he hg d (.row e' vK W Y) v (pI R) hzb (fun C kC=>⟨D,Hw R (fun b hb=>by
        rcases hzb b hb with h|h
        ·exact vE b h
        ·have:=S.ext.size;omega),hzc.le (bareLe C kC)⟩)
       have happ:rI.apply { dst:=some d,val:=.own d (st.aJ d),dE:=some (s,k,none),new:=some (d,[.row e' vK W Y])} st=((st.gV s k none).new d (.row e' vK W Y)).put (some d) (.own d (st.aJ d)):=by
        simp only[rI.apply,DB]
       have A:st.aJ d<(ctx h0 w0 (sD ρ d (st.aJ d) v) ((st.gV s k none).new d (.row e' vK W Y)) w').aJ d:=mw
       have m:(ctx h0 w0 (sD ρ d (st.aJ d) v) ((st.gV s k none).new d (.row e' vK W Y)) w').ρ d (st.aJ d)=v:=qE
       have:=cD.own (C:=ctx h0 w0 (sD ρ d (st.aJ d) v) ((st.gV s k none).new d (.row e' vK W Y)) w') d (st.aJ d) A (by rw[m];exact pI R)
       rw[m] at this;have hS:=M.put (some d) l this
       grind
    ·rename_i e' vK W Y X
     obtain⟨O4,G⟩:=run _ X
     refine⟨O4,G.mono ?_⟩
     rintro en w' ⟨v,rfl,hg,rfl,D,R,hzc⟩
     simp only[cQ] at h;subst h;have M:=S.aE3 (e':=.row e' vK W Y) he hg (fun C kC=>⟨D,Hw R vE,hzc.le (bareLe C kC)⟩)
     exact⟨_,rfl,hK ρ _ _ (M.put dst l (.cY [] #[] rfl qe))⟩
    ·cases h
   ·cases h
  ·cases h
 ·split at h
  ·exact An S lM h J l hK
  ·cases h
end
end Go.Ab
end
section
namespace Go.Ab
open Classical
variable {v:Value} {w':World} {z:List Value} {T n e sz by_:Nat}
section
variable {P:Program} {h0:Nat->Obj->Prop} {w0:World} {F:Jb} {nt:Nat} {ρ:Nat->Nat->Value} {st:St} {a:Act} {w:World} {K:Act->World->Prop} {Q:Exit->Act->World->Prop}
theorem upon_value {o:Oper} (h:(execOp a.eval o).run P w=.ok (.value v) w') (R:K (a.put o.dst v) w'):o.wp P a w K Q:=by
 unfold Oper.wp;rw[h];exact R
theorem kI.newVar (S:kI F h0 w0 nt ρ st a w) (d:Nat) (l:d<nt) (cs:List AV) (arr:Array Value) (T:Nat) (G:dN (ctx h0 w0 ρ st w) cs arr.toList) :
 ∃N,kI F h0 w0 nt N ((st.new d (.cells cs)).put (some d) (.ptr d (st.aJ d) 0)) (a.put (some d) (.pointer (some ⟨w.heap.size,0,none⟩))) (w.alloc (.cells arr T)):=by
 obtain⟨M,k,W⟩:=S.new (World.grownBy_alloc w (.cells arr T) none) d (.cells cs) (.pointer (some ⟨w.heap.size,0,none⟩)) rfl (fun b hb=>by simp[cW] at hb;omega)
  (fun C k _=>⟨w.heap.size,arr,T,rfl,S.ext.size,heap_alloc_new w _,G.le k⟩)
 exact⟨_,M.put (some d) (fun t D=>by cases D;exact l) (.ptr d (st.aJ d) 0 w.heap.size (by simp[ctx,St.new]) (by show cW (sD _ _ _ _ _ _)=_;rw[W];rfl))⟩
theorem kI.newRow (S:kI F h0 w0 nt ρ st a w) (d:Nat) (l:d<nt) (hg:w.grownBy w' none) (e sz n:Nat) (cs:List AV) (xs:List Value) (v:Value) (p:kK w' w.heap.size e sz v n xs) (G:dN (ctx h0 w0 ρ st w) cs xs) :
 ∃N,kI F h0 w0 nt N ((st.new d (.row e sz n cs)).put (some d) (.own d (st.aJ d))) (a.put (some d) v) w':=by
 obtain⟨M,k,W⟩:=S.new hg d (.row e sz n cs) v (pI p) (fun b hb=>(As p b hb).1) (fun C k _=>⟨xs,wX p S.ext.size,G.le k⟩)
 refine⟨_,M.put (some d) (fun t D=>by cases D;exact l) ?_⟩
 have bB:st.aJ d<(ctx h0 w0 (sD ρ d (st.aJ d) v) (st.new d (.row e sz n cs)) w').aJ d:=by simp[ctx,St.new]
 have lP:(ctx h0 w0 (sD ρ d (st.aJ d) v) (st.new d (.row e sz n cs)) w').ρ d (st.aJ d)=v:=W
 grind [cD.own,pI]
theorem Lh (z:Array Value) (n:Nat):((Array.range (n * z.size)).map (z[· % z.size]!)).toList=(List.range n).flatMap fun _=>z.toList:=by
 rw[Array.toList_map];have:(Array.range (n * z.size)).toList=List.range (n * z.size):=qe
 rw[this];clear this
 induction n with
 | zero=>simp
 | succ n S =>
   rw[Nat.succ_mul,range_add,map_append,S,range_succ,flatMap_append];congr 1
   simp only[flatMap_cons,flatMap_nil,append_nil,map_map];apply ext_getElem?
   intro i;by_cases hi:i<z.size
   ·simp[hi,Nat.mod_eq_of_lt hi,Nat.mul_comm n z.size]
   ·simp[hi]
theorem Nk {C:Ctx} (h1:∀y∈z,y.oneCell'=true) (n:Nat):dN C ((List.range n).flatMap fun _=>z.map .v) ((List.range n).flatMap fun _=>z):=by
 generalize List.range n=l
 induction l<;>grind [dN.nil,dN.app,dN.vs]
theorem Xg (S:kI F h0 w0 nt ρ st a w) {parts:Array (Nat × Operand)} {cs:List AV} (hs:dD P T=some (e,sz,by_)) (R:eC P e=some z)
 (M:0<n\/parts=#[]) (hlim:n * sz<=2 ^ 24) (oP:(parts.toList.all fun p=>(st.ev p.2).lL)=true)
 (W:mP (fun i=>some (i * sz,sz)) ((List.range n).flatMap fun _=>z.map .v) (parts.toList.map fun p=>(p.1,st.ev p.2))=some cs) :
 ∃v w' xs,(Instr.buildSlice T n (parts.map fun (i,x)=>(i,a.eval x))).run P w=.ok v w'/\w.grownBy w' none/\kK w' w.heap.size e sz v n xs/\dN (ctx h0 w0 ρ st w) cs xs:=by
 obtain⟨l,ez,hT,Y,r,rfl,Rl,rfl,m⟩:=kS hs
 obtain⟨i',zv,Nq,A,rfl,G⟩:=Bh R
 rw[Y] at Nq
 cases Nq
 rw[r] at A;cases A
 rcases Nat.eq_zero_or_pos n with h0'|M
 ·subst h0'
  have hp:parts=#[]:=by
   grind
  subst hp;simp[mP] at W
  subst W;refine⟨.slice (some ⟨w.heap.size,0,none⟩) 0 0,w.alloc (.cells #[] e),[], ?_,World.grownBy_alloc w _ none,⟨qe,.inl ⟨_,rfl,rfl⟩⟩,.nil _⟩
  simp[Instr.buildSlice,run_underlying hT,sizeOf,typeInfo,zeroValue,Y,Instr.fill,newRow]
  rw[show Array.map (fun x=>(default:Value)) (Array.range 0)=#[] from by simp[Array.range]]
 have J:jD (ctx h0 w0 ρ st w) ((parts.toList.map fun p=>(p.1,st.ev p.2)).map (·.2)) ((parts.toList.map fun p=>(p.1,a.eval p.2)).map (·.2)):=by
  grind [jD.map,kI.ev]
 have hnz:¬n * l.size=0:=by
  have:=Nat.mul_pos M m
  omega
 have aHi:((Array.range (n * l.size)).map (ez.cells[· % ez.cells.size]!)).toList=(List.range n).flatMap fun _=>ez.cells.toList:=by
  grind [Lh]
 obtain⟨cells,hfill,D⟩:=Po (place:=fun i=>some (i * l.size,l.size)) (parts.toList.map fun p=>(p.1,st.ev p.2)) (parts.toList.map fun p=>(p.1,a.eval p.2)) _ ((Array.range (n * l.size)).map (ez.cells[· % ez.cells.size]!)) cs qe J
  (fun p hp'=>by
   grind) (by rw[aHi];exact Nk G n) W
 have X:=run_buildSlice (P:=P) w T e n (parts.map fun (i,x)=>(i,a.eval x)) cells l ez hT Y r WF hnz (by simpa using hfill)
 have u:cells.size=n * l.size:=by
  have hlen:∀(place:Nat->Option (Nat × Nat)) (N:List (Nat × AV)) (c out:List AV),mP place c N=some out->out.length=c.length:=by
   intro place N;induction N<;>grind [mP]
  have h1:=hlen _ _ _ _ W
  have h2:=D.len
  have h3:=(Nk (C:=ctx h0 w0 ρ st w) G n).len
  grind
 refine⟨_,_,cells.toList,X,World.grownBy_alloc w _ none,yB ?_,D⟩
 refine⟨by simp[u],.inr ⟨w.heap.size,n,cells,rfl,Nat.le_refl _,heap_alloc_new w _,Nat.le_refl _, ?_,u, ?_⟩⟩
 ·have:n<=n * l.size:=Nat.le_mul_of_pos_right n m
  simp only[maxLen];omega
 grind [Array.length_toList]
theorem AQ (C:Ctx) (hs:dD P T=some (e,sz,by_)) (R:eC P e=some z)
 (hb:n * by_<=140737488355328) (hm:n<=maxLen) :
 ∃v w' xs,(Instr.makeSlice T (.int .i64 n) (.int .i64 n)).run P w=.ok v w'/\w.grownBy w' none/\kK w' w.heap.size e sz v n xs/\dN C ((List.range n).flatMap fun _=>z.map .v) xs:=by
 obtain⟨l,J,hT,Y,r,rfl,Rl,rfl,Bg⟩:=kS hs
 obtain⟨i',zv,M,A,rfl,G⟩:=Bh R
 rw[Y] at M
 cases M
 rw[r] at A;cases A
 obtain⟨w',X,p,hg⟩:=run_make_full (P:=P) w w.heap.size T e l J l.size hT Y r rfl .i64 .i64 n qg hm (Nat.le_refl _)
 have D:(madeCells J.cells (n * l.size)).toList=(List.range n).flatMap fun _=>J.cells.toList:=by
  grind [madeCells,Lh]
 exact⟨_,w',_,X,hg,yB p,by rw[D];exact Nk G n⟩
theorem B5 (S:kI F h0 w0 nt ρ st a w) {x y:AV} {s g:Nat} {e:mH} {u:Value} (h:qW P st T x y=some (s,g,e)) (hu:cD (ctx h0 w0 ρ st w) x u) (hv:cD (ctx h0 w0 ρ st w) y v) :
 ∃w',(Instr.storeAt T u v).run P w=.ok () w'/\kI F h0 w0 nt ρ (st.gV s g (some e)) a w':=by
 unfold qW at h;split at h
 ·rename_i D g' off
  split at h
  ·rename_i ba k hld;split at h
   ·rename_i G;obtain⟨c1,c2⟩:=G
    obtain⟨i,d,hi,hd,uH,rfl⟩:=Dd hld
    have TW:=hv.cells c2
    have hlen:=TW.len
    simp only[Array.length_toList] at hlen;cases hu with
    | ptr _ _ _ b hg hb =>
      have r:cW (ρ D g')=some b:=hb
      have main:∀(arr:Array Value) (B:Nat),w.heap[b]? = some (.cells arr B (0,0))->off+i.size<=arr.size ->
       (Instr.storeAt T (.pointer (some ⟨b,off,none⟩)) v).run P w=.ok () (w.setRow b (arr.toList.take off++v.cells.toList++arr.toList.drop (off+i.size)).toArray):=by
       intro arr B hh hle;have oP:=run_storeCells_at P b off B v.cells.toList 0 arr w hh qs (fun y Y=>by
        obtain⟨j,hj,rfl⟩:=getElem_of_mem Y
        exact TW.one j _ qe)
       simp only[Nat.add_zero,Array.length_toList] at oP;simp only[Instr.storeAt,Instr.sureAddr];rw[iF (Sem.run_pure P w _)];simp only[storeVar,iF (run_sizeOf w hi)];grind
      have grown:∀(cs:Array Value),w.grownBy (w.setRow b cs) (some b):=fun cs=>⟨rfl,rfl,rfl,qe,fun k _ R=>setRow_other w b k cs (fun e=>R (by rw[e]))⟩
      cases he:st.heap D g' with
      | none=>simp[he] at h
      | some e' =>
        obtain⟨_,_,her⟩:=S.tG D g' _ he
        cases e' with
        | cells cs =>
          simp only[he] at h;split at h
          ·rename_i hle;simp only[cQ,Prod.mk.injEq] at h;obtain⟨rfl,rfl,rfl⟩:=h
           obtain⟨X,arr,B,m,J,hh,G⟩:=her
           have l:X=b:=by grind [cW]
           subst l;have W:=G.len
           simp only[Array.length_toList] at W;refine⟨_,main arr B hh WF,S.store he r (grown _) fun C k=>⟨X,_,B,m,J,setRow_heap w X arr _ B (0,0) hh, ?_⟩⟩
           exact (((G.take off).app TW).app (G.drop _)).le k
          ·cases h
        | row M sz n cs =>
          simp only[he] at h;split at h
          ·rename_i hle;simp only[cQ,Prod.mk.injEq] at h;obtain⟨rfl,rfl,rfl⟩:=h
           obtain⟨xs,ho,G⟩:=her
           have ho':=ho
           rcases ho.2 with ⟨p,m,_⟩|⟨X,cap,cur,m,J,hh,Xd,N,Tq,ht,A⟩
           ·grind [pH]
           ·have l:X=b:=ji
            subst l;have W:=G.len
            have hx:=ho.1
            have aKJ:n * sz<=cap * sz:=Nat.mul_le_mul_right _ Xd
            refine⟨_,main cur M hh WF,S.store he r (grown _) fun C k=>⟨xs.take off++v.cells.toList++xs.drop (off+i.size), ?_,(((G.take off).app TW).app (G.drop _)).le k⟩⟩
            refine⟨qs,.inr ⟨X,cap,_,m,J,setRow_heap w X cur _ M (0,0) hh,Xd,N,qs, ?_,A⟩⟩
            simp only
            rw[<- ht];have Hr:cur.toList.length=cur.size:=rfl
            have hvl:v.cells.toList.length=v.cells.size:=rfl
            have l1:(cur.toList.take off++v.cells.toList).length=off+i.size:=qs
            grind [take_append,take_of_length_le,drop_take]
          ·cases h
        | map es=>simp[he] at h
   ·cases h
  ·cases h
 ·cases h
end
end Go.Ab
end
