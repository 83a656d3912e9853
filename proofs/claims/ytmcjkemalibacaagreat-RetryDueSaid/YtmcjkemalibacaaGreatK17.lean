/-
  Part 17 of the proof: an evaluator of programs, its soundness, and what functions of this program compute.
-/
import Derived.Test.YtmcjkemalibacaaGreatK5
import Derived.Test.YtmcjkemalibacaaGreatK9
import Derived.Test.YtmcjkemalibacaaGreatK16
set_option linter.all false
set_option maxRecDepth 20000
set_option maxHeartbeats 40000000
section
namespace Go.Ab
open Classical
structure QS where
 e:List (Nat × AV)
 h:List (Nat × Nat × Option jI)
 c:List (Nat × Nat)
def qE:List (Nat × AV)→Nat→AV
 | [],_=>.v undef
 | (k,x) :: r,t=>bif Nat.beq t k then x else qE r t
def qH:List (Nat × Nat × Option jI)→Nat→Nat→Option jI
 | [],_,_=>none
 | (a,b,x) :: r,s,g=>bif Nat.beq s a && Nat.beq g b then x else qH r s g
def qC:List (Nat × Nat)→Nat→Nat
 | [],_=>0
 | (k,n) :: r,t=>bif Nat.beq t k then n else qC r t
def QS.abs (q:QS):St:=⟨qE q.e,qH q.h,qC q.c⟩
def sE (d:Nat) (x:AV):List (Nat × AV)→List (Nat × AV)
 | []=>[(d,x)]
 | (k,y) :: r=>bif Nat.beq d k then (k,x) :: r else (k,y) :: sE d x r
def sH (a b:Nat) (x:Option jI):List (Nat × Nat × Option jI)→List (Nat × Nat × Option jI)
 | []=>[(a,b,x)]
 | (s,g,y) :: r=>bif Nat.beq a s && Nat.beq b g then (s,g,x) :: r else (s,g,y) :: sH a b x r
def sC (d n:Nat):List (Nat × Nat)→List (Nat × Nat)
 | []=>[(d,n)]
 | (k,y) :: r=>bif Nat.beq d k then (k,n) :: r else (k,y) :: sC d n r
theorem xP (a b:Nat):Nat.beq a b=decide (a=b):=by
 by_cases h:a=b
 ·subst h;simp
 ·rw[decide_eq_false h];cases e:Nat.beq a b with
  | false=>rfl
  | true=>exact absurd (Nat.eq_of_beq_eq_true e) h
theorem aNL (d:Nat) (x:AV) (t:Nat):∀l,qE (sE d x l) t=if t=d then x else qE l t
 | []=>by simp[sE,qE,xP,Bool.cond_decide]
 | (k,y) :: r=>by
   have ih:=aNL d x t r
   by_cases h1:d=k<;>by_cases h2:t=k<;>simp_all [sE,qE,xP,Bool.cond_decide]
   ·intro h;exact absurd h.symm h1
theorem aNM (d n:Nat) (t:Nat):∀l,qC (sC d n l) t=if t=d then n else qC l t
 | []=>by simp[sC,qC,xP,Bool.cond_decide]
 | (k,y) :: r=>by
   have ih:=aNM d n t r
   by_cases h1:d=k<;>by_cases h2:t=k<;>simp_all [sC,qC,xP,Bool.cond_decide]
   ·intro h;exact absurd h.symm h1
theorem aHB (a b:Nat) (x:Option jI) (s g:Nat):∀l,qH (sH a b x l) s g=if s=a∧g=b then x else qH l s g
 | []=>by simp[sH,qH,xP,Bool.cond_decide,← Bool.decide_and]
 | (s',g',y) :: r=>by
   have ih:=aHB a b x s g r
   by_cases h1:a=s'∧b=g'
   ·obtain⟨rfl,rfl⟩:=h1
    simp[sH,qH,xP,Bool.cond_decide,← Bool.decide_and]
    by_cases h2:s=a∧g=b<;>simp[h2]
   ·have e1:(Nat.beq a s' && Nat.beq b g')=false:=by simp[xP];intro h;exact fun h'=>h1 ⟨h,h'⟩
    simp only[sH,e1,cond_false,qH,ih];by_cases h2:s=s'∧g=g'
    ·obtain⟨rfl,rfl⟩:=h2
     have:¬(s=a∧g=b):=fun h=>h1 ⟨h.1.symm,h.2.symm⟩
     simp[this,xP]
    ·have e2:(Nat.beq s s' && Nat.beq g g')=false:=by simp[xP];intro h;exact fun h'=>h2 ⟨h,h'⟩
     simp only[e2,cond_false]
def QS.put (q:QS) (d:Option Nat) (x:AV):QS :=
 match d with
 | none=>q
 | some d=>{ q with e:=sE d x q.e }
theorem Vp (q:QS) (d:Option Nat) (x:AV):(q.put d x).abs=q.abs.put d x:=by
 cases d with
 | none=>rfl
 | some d =>
   unfold QS.put QS.abs St.put;simp only
   congr 1
   funext t
   exact aNL d x t q.e
def QS.iH (q:QS) (s g:Nat) (e:Option jI):QS:={ q with h:=sH s g e q.h }
theorem OD (q:QS) (s g:Nat) (e:Option jI):(q.iH s g e).abs=q.abs.iH s g e:=by
 unfold QS.iH QS.abs St.iH;simp only
 congr 1
 funext s' g'
 exact aHB s g e s' g' q.h
def X7 (d:Nat):Nat→List jI→List (Nat × Nat × Option jI)→List (Nat × Nat × Option jI)
 | _,[],h=>h
 | c,e :: r,h=>sH d c (some e) (X7 d (c+1) r h)
def QS.news (q:QS) (d:Nat) (es:List jI):QS :=
 { q with h:=X7 d (qC q.c d) es q.h,c:=sC d (qC q.c d+es.length) q.c }
theorem l5 (d:Nat) (s g:Nat) (h:List (Nat × Nat × Option jI)):∀(es:List jI) (c:Nat),qH (X7 d c es h) s g=if s=d∧c≤g∧g-c<es.length then es[g-c]? else qH h s g
 | [],c=>by simp[X7]
 | e :: r,c=>by
   rw[X7,aHB,l5 d s g h r (c+1)];by_cases h1:s=d
   ·subst h1;by_cases h2:g=c
    ·subst h2;simp
    ·by_cases h3:c≤g
     ·have h4:c+1≤g:=by omega
      have h5:g-c=(g-(c+1))+1:=by omega
      simp only[true_and,h2,if_false,h3,h4,h5,List.length_cons,List.getElem?_cons_succ,Nat.add_lt_add_iff_right]
     ·have h4:¬c+1≤g:=by omega
      simp[h2,h3,h4]
   ·simp[h1]
theorem OE (q:QS) (d:Nat) (es:List jI):(q.news d es).abs=q.abs.news d es:=by
 unfold QS.news QS.abs St.news;simp only
 congr 1
 ·funext s' g'
  exact l5 d s' g' q.h es (qC q.c d)
 ·funext s
  exact aNM d _ s q.c
def QS.app (e:mT) (q:QS):QS :=
 let s1:=match e.dM with
  | some (s,g,x)=>q.iH s g x
  | none=>q
 let s2:=match e.new with
  | some (d,x)=>s1.news d x
  | none=>s1
 s2.put e.dst e.val
theorem aDv (e:mT) (q:QS):(q.app e).abs=e.apply q.abs:=by
 obtain⟨d,v,u,n⟩:=e
 unfold QS.app mT.apply;simp only[Vp];cases u with
 | none=>cases n with
   | none=>rfl
   | some n=>obtain⟨a,b⟩:=n;simp only[OE]
 | some u=>obtain⟨s,g,x⟩:=u;cases n with
   | none=>simp only[OD]
   | some n=>obtain⟨a,b⟩:=n;simp only[OE,OD]
def QS.back (q s:QS):QS:=⟨q.e,s.h,s.c⟩
theorem OF (q s:QS):(q.back s).abs=q.abs.back s.abs:=rfl
def idx:Nat→List AV→List (Nat × AV)
 | _,[]=>[]
 | n,x :: r=>(n,x) :: idx (n+1) r
theorem VG:∀(xs:List AV) (n t:Nat),qE (idx n xs) t=if t<n then .v undef else (xs[t-n]?).getD (.v undef)
 | [],n,t=>by simp[idx,qE]
 | x :: r,n,t=>by
   rw[idx,qE,VG r (n+1) t,xP,Bool.cond_decide];by_cases h:t=n
   ·subst h;simp
   ·by_cases h2:t<n
    ·have:t<n+1:=by omega
     simp[h,h2,this]
    ·have h3:¬t<n+1:=by omega
     have h4:t-n=(t-(n+1))+1:=by omega
     simp[h,h2,h3,h4]
def QS.init (xs:List AV):QS:=⟨idx 0 xs,[],[]⟩
theorem OG (xs:List AV):(QS.init xs).abs=St.init xs:=by
 unfold QS.init QS.abs St.init;simp only
 congr 1
 funext t
 rw[VG];simp
def QS.oB (e sz n:Nat) (cs rest:List AV):QS:=⟨(0,.own 0 0) :: idx 1 rest,[(0,0,some (.row e sz n cs))],[(0,1)]⟩
theorem F3 (e sz n:Nat) (cs rest:List AV):(QS.oB e sz n cs rest).abs=St.oB e sz n cs rest:=by
 unfold QS.oB QS.abs St.oB;simp only
 congr 1
 ·funext t
  cases t with
  | zero=>rfl
  | succ t =>
    show qE (idx 1 rest) (t+1)=_
    rw[VG];simp
 ·funext s g
  simp[qH,xP,Bool.cond_decide,← Bool.decide_and]
 ·funext s
  simp[qC,xP,Bool.cond_decide]
variable {β:Type}
def Ud (n:Nat) (k:Nat→β):β :=
 match n with
 | 0=>k 0
 | m+1=>k (m+1)
theorem Rc (n:Nat) (k:Nat→β):Ud n k=k n:=by cases n<;>rfl
def nfI (n:Int) (k:Int→β):β :=
 match n with
 | .ofNat m=>Ud m fun m=>k (.ofNat m)
 | .negSucc m=>Ud m fun m=>k (.negSucc m)
theorem aHC (n:Int) (k:Int→β):nfI n k=k n:=by cases n<;>simp[nfI,Rc]
def nfV (x:Value) (k:Value→β):β :=
 match x with
 | .int t n=>nfI n fun n=>k (.int t n)
 | .bool true=>k (.bool true)
 | .bool false=>k (.bool false)
 | x=>k x
theorem aHD (x:Value) (k:Value→β):nfV x k=k x:=by
 unfold nfV;split<;>simp[aHC]
def X8:List AV→(List AV→β)→β
 | [],k=>k []
 | x :: r,k=>X8 r fun r=>k (x :: r)
theorem VH:∀(l:List AV) (k:List AV→β),X8 l k=k l
 | [],k=>rfl
 | x :: r,k=>by rw[X8,VH r]
def nfA (x:AV) (k:AV→β):β :=
 match x with
 | .v y=>nfV y fun y=>k (.v y)
 | .agg cs=>X8 cs fun cs=>k (.agg cs)
 | .sl m cs=>Ud m fun m=>X8 cs fun cs=>k (.sl m cs)
 | .cl m cs=>Ud m fun m=>X8 cs fun cs=>k (.cl m cs)
 | .ip cs o=>Ud o fun o=>X8 cs fun cs=>k (.ip cs o)
 | .ptr s g o=>Ud s fun s=>Ud g fun g=>Ud o fun o=>k (.ptr s g o)
 | .own s g=>Ud s fun s=>Ud g fun g=>k (.own s g)
 | .vw s g o m=>Ud s fun s=>Ud g fun g=>Ud o fun o=>Ud m fun m=>k (.vw s g o m)
 | .dZ cs=>X8 cs fun cs=>k (.dZ cs)
 | .uniq e sz m cs=>Ud m fun m=>X8 cs fun cs=>k (.uniq e sz m cs)
 | x=>k x
theorem VI (x:AV) (k:AV→β):nfA x k=k x:=by
 unfold nfA;split<;>simp only[aHD,Rc,VH]
def X9:List AV→(List AV→β)→β
 | [],k=>k []
 | x :: r,k=>nfA x fun x=>X9 r fun r=>k (x :: r)
theorem HL:∀(l:List AV) (k:List AV→β),X9 l k=k l
 | [],k=>rfl
 | x :: r,k=>by rw[X9,VI,HL r]
def nfE (e:jI) (k:jI→β):β :=
 match e with
 | .cells cs=>X8 cs fun cs=>k (.cells cs)
 | .row a b n cs=>Ud a fun a=>Ud b fun b=>Ud n fun n=>X8 cs fun cs=>k (.row a b n cs)
 | .map es=>k (.map es)
theorem Y0 (e:jI) (k:jI→β):nfE e k=k e:=by
 cases e<;>simp only[nfE,Rc,VH]
def aDw:List jI→(List jI→β)→β
 | [],k=>k []
 | x :: r,k=>nfE x fun x=>aDw r fun r=>k (x :: r)
theorem l6:∀(l:List jI) (k:List jI→β),aDw l k=k l
 | [],k=>rfl
 | x :: r,k=>by rw[aDw,Y0,l6 r]
def nfU (u:Option (Nat × Nat × Option jI)) (k:Option (Nat × Nat × Option jI)→β):β :=
 match u with
 | none=>k none
 | some (s,g,none)=>Ud s fun s=>Ud g fun g=>k (some (s,g,none))
 | some (s,g,some e)=>Ud s fun s=>Ud g fun g=>nfE e fun e=>k (some (s,g,some e))
theorem aHE (u:Option (Nat × Nat × Option jI)) (k:Option (Nat × Nat × Option jI)→β):nfU u k=k u:=by
 unfold nfU;split<;>simp only[Rc,Y0]
def nfW (u:Option (Nat × List jI)) (k:Option (Nat × List jI)→β):β :=
 match u with
 | none=>k none
 | some (d,es)=>Ud d fun d=>aDw es fun es=>k (some (d,es))
theorem aHF (u:Option (Nat × List jI)) (k:Option (Nat × List jI)→β):nfW u k=k u:=by
 unfold nfW;split<;>simp only[Rc,l6]
def Y1 (e:mT) (k:mT→β):β :=
 match e with
 | ⟨d,v,u,n⟩=>nfA v fun v=>nfU u fun u=>nfW n fun n=>k ⟨d,v,u,n⟩
theorem Y2 (e:mT) (k:mT→β):Y1 e k=k e:=by
 obtain⟨d,v,u,n⟩:=e
 simp only[Y1,VI,aHE,aHF]
def spE:List (Nat × AV)→(List (Nat × AV)→β)→β
 | [],k=>k []
 | (a,x) :: r,k=>spE r fun r=>k ((a,x) :: r)
theorem Y3:∀(l:List (Nat × AV)) (k:List (Nat × AV)→β),spE l k=k l
 | [],k=>rfl
 | (a,x) :: r,k=>by rw[spE,Y3 r]
def spH:List (Nat × Nat × Option jI)→(List (Nat × Nat × Option jI)→β)→β
 | [],k=>k []
 | (a,b,x) :: r,k=>spH r fun r=>k ((a,b,x) :: r)
theorem Y4:∀(l:List (Nat × Nat × Option jI)) (k:List (Nat × Nat × Option jI)→β),spH l k=k l
 | [],k=>rfl
 | (a,b,x) :: r,k=>by rw[spH,Y4 r]
def spC:List (Nat × Nat)→(List (Nat × Nat)→β)→β
 | [],k=>k []
 | (a,x) :: r,k=>Ud x fun x=>spC r fun r=>k ((a,x) :: r)
theorem Y5:∀(l:List (Nat × Nat)) (k:List (Nat × Nat)→β),spC l k=k l
 | [],k=>rfl
 | (a,x) :: r,k=>by rw[spC,Rc,Y5 r]
def nfQ (q:QS) (k:QS→β):β :=
 match q with
 | ⟨e,h,c⟩=>spE e fun e=>spH h fun h=>spC c fun c=>k ⟨e,h,c⟩
theorem aHG (q:QS) (k:QS→β):nfQ q k=k q:=by
 obtain⟨e,h,c⟩:=q
 simp only[nfQ,Y3,Y4,Y5]
def HM (f:AV→Option Bool):List AV→Option Bool
 | []=>some true
 | x :: r=>match f x with
   | some true=>HM f r
   | some false=>some false
   | none=>none
def fl:Nat→AV→Option Bool
 | 0,_=>none
 | n+1,x =>
   match x with
   | .v _=>some true
   | .agg cs=>HM (fl n) cs
   | .sl _ cs=>HM (fl n) cs
   | .cl _ cs=>HM (fl n) cs
   | .ip cs _=>HM (fl n) cs
   | .Aj _ cs=>HM (fl n) cs
   | .dZ cs=>HM (fl n) cs
   | _=>some false
theorem HN {f:AV→Option Bool} {p:AV→Prop} (hf:∀x b,f x=some b→(b=true↔p x)):∀(l:List AV) (b:Bool),HM f l=some b→(b=true↔∀x∈l,p x)
 | [],b,h=>by cases h;simp
 | x :: r,b,h=>by
   rw[HM] at h;cases e:f x with
   | none=>rw[e] at h;cases h
   | some c =>
     rw[e] at h;have h1:=hf x c e
     cases c with
     | true =>
       have h2:=HN hf r b h
       rw[h2];simp only[List.mem_cons,forall_eq_or_imp];exact⟨fun h=>⟨h1.1 rfl,h⟩,fun h=>h.2⟩
     | false =>
       cases h
       simp only[List.mem_cons,forall_eq_or_imp];exact⟨fun h=>absurd h (by simp),fun h=>absurd (h1.2 h.1) (by simp)⟩
theorem OH:∀(n:Nat) (x:AV) (b:Bool),fl n x=some b→(b=true↔Flat x)
 | 0,_,_,h=>by cases h
 | n+1,x,b,h=>by
   have ih:=HN (OH n)
   cases x with
   | v y=>cases h;exact⟨fun _=>.v y,fun _=>rfl⟩
   | agg cs=>exact (ih cs b h).trans ⟨fun h=>.agg _ h,fun h=>by cases h;assumption⟩
   | sl m cs=>exact (ih cs b h).trans ⟨fun h=>.sl _ _ h,fun h=>by cases h;assumption⟩
   | cl m cs=>exact (ih cs b h).trans ⟨fun h=>.cl _ _ h,fun h=>by cases h;assumption⟩
   | ip cs o=>exact (ih cs b h).trans ⟨fun h=>.ip _ _ h,fun h=>by cases h;assumption⟩
   | Aj f cs=>exact (ih cs b h).trans ⟨fun h=>.Aj _ _ h,fun h=>by cases h;assumption⟩
   | dZ cs=>exact (ih cs b h).trans ⟨fun h=>.dZ _ h,fun h=>by cases h;assumption⟩
   | ptr s g o=>cases h;exact⟨fun h=>(by cases h),fun h=>by cases h⟩
   | own s g=>cases h;exact⟨fun h=>(by cases h),fun h=>by cases h⟩
   | mp s g=>cases h;exact⟨fun h=>(by cases h),fun h=>by cases h⟩
   | uniq e sz m cs=>cases h;exact⟨fun h=>(by cases h),fun h=>by cases h⟩
   | vw s g o m=>cases h;exact⟨fun h=>(by cases h),fun h=>by cases h⟩
abbrev F9:AV→Option Bool:=fl 9
theorem f9t {x:AV} (h:F9 x=some true):Flat x:=(OH 9 x true h).1 rfl
theorem f9f {x:AV} (h:F9 x=some false):¬Flat x:=fun hf=>by have:=(OH 9 x false h).2 hf;cases this
theorem fLt {l:List AV} (h:HM F9 l=some true):∀x∈l,Flat x:=(HN (OH 9) l true h).1 rfl
theorem fLf {l:List AV} (h:HM F9 l=some false):¬ ∀x∈l,Flat x:=fun hf=>by have:=(HN (OH 9) l false h).2 hf;cases this
def Y6:Nat→AV→Bool
 | 0,_=>false
 | n+1,x =>
   match x with
   | .v _=>true
   | .agg cs=>cs.all (Y6 n)
   | .dZ cs=>cs.all (Y6 n)
   | _=>false
theorem Rd:∀(n:Nat) (x:AV),Y6 n x=true→fJ x
 | 0,_,h=>by cases h
 | n+1,x,h=>by
   have ih:=Rd n
   cases x with
   | v y=>exact .v y
   | agg cs=>exact .agg _ fun x hx=>ih x (List.all_eq_true.1 h x hx)
   | dZ cs=>exact .dZ _ fun x hx=>ih x (List.all_eq_true.1 h x hx)
   | _=>cases h
def qX0 (st:St) (x:AV):Option AV :=
 match F9 x with
 | some true=>some x
 | some false =>
   match x with
   | .own s g =>
     match st.heap s g with
     | some (.row _ _ n cs)=>match HM F9 cs with
       | some true=>some (.sl n cs)
       | _=>none
     | _=>none
   | .vw s g o n =>
     match st.heap s g with
     | some (.row _ sz _ cs)=>match HM F9 cs with
       | some true=>if o+n * sz≤cs.length then some (.sl n ((cs.drop o).take (n * sz))) else none
       | _=>none
     | _=>none
   | _=>none
 | none=>none
theorem Y7 {st:St} {x y:AV} (h:qX0 st x=some y):tO st x=some y:=by
 unfold qX0 at h;split at h
 ·rename_i e;cases h;unfold tO;rw[if_pos (f9t e)]
 ·rename_i e;unfold tO;rw[if_neg (f9f e)];split at h
  ·rename_i s g;split at h
   ·rename_i hh;split at h
    ·rename_i e2;cases h;simp only[hh];rw[if_pos (fLt e2)]
    ·cases h
   ·cases h
  ·rename_i s g o n;split at h
   ·rename_i hh;split at h
    ·rename_i e2;split at h
     ·rename_i e3;cases h;simp only[hh];rw[if_pos ⟨fLt e2,e3⟩]
     ·cases h
    ·cases h
   ·cases h
  ·cases h
 ·cases h
theorem OI {f g:AV→Option AV} (hf:∀x y,f x=some y→g x=some y):∀(l:List AV) (r:List AV),bP (l.map f)=some r→bP (l.map g)=some r
 | [],r,h=>h
 | x :: l,r,h=>by
   rw[List.map_cons] at h ⊢;cases e:f x with
   | none=>rw[e] at h;cases h
   | some y =>
     rw[e] at h;rw[hf x y e];simp only[bP] at h ⊢;cases e2:bP (l.map f) with
     | none=>rw[e2] at h;cases h
     | some ys=>rw[e2] at h;rw[OI hf l ys e2];exact h
def qX1 (st:St) (x:AV):Option AV :=
 match F9 x with
 | some true=>some x
 | some false =>
   match x with
   | .ptr s g o =>
     match st.heap s g with
     | some (.cells cs)=>(bP (cs.map (qX0 st))).map fun ds=>.ip ds o
     | _=>none
   | x=>qX0 st x
 | none=>none
theorem VJ {st:St} {x y:AV} (h:qX1 st x=some y):cM st x=some y:=by
 unfold qX1 at h;split at h
 ·rename_i e;cases h;unfold cM;rw[if_pos (f9t e)]
 ·rename_i e;have hn:=f9f e
  split at h
  ·rename_i s g o;unfold cM;rw[if_neg hn];split at h
   ·rename_i hh;simp only[hh];cases e2:bP (List.map (qX0 st) _) with
    | none=>rw[e2] at h;cases h
    | some ds=>rw[e2] at h;rw[OI (fun x y=>Y7) _ _ e2];exact h
   ·cases h
  ·have h2:=Y7 h
   unfold tO at h2;rw[if_neg hn] at h2;unfold cM;rw[if_neg hn];cases x with
   | ptr s g o=>cases h2
   | _=>first|exact h2|cases h2
 ·cases h
def qX (st:St) (x:AV):Option AV :=
 match F9 x with
 | some true=>some x
 | some false =>
   match x with
   | .agg cs=>(bP (cs.map (qX1 st))).map .agg
   | .Aj f nJ=>(bP (nJ.map (qX1 st))).map (.Aj f)
   | x=>qX1 st x
 | none=>none
theorem l7 {st:St} {x y:AV} (h:qX st x=some y):fU st x=some y:=by
 unfold qX at h;split at h
 ·rename_i e;cases h;unfold fU;rw[if_pos (f9t e)]
 ·rename_i e;have hn:=f9f e
  unfold fU;rw[if_neg hn];cases x with
  | agg cs =>
    simp only at h ⊢
    cases e2:bP (cs.map (qX1 st)) with
    | none=>rw[e2] at h;cases h
    | some ds=>rw[e2] at h;rw[OI (fun x y=>VJ) _ _ e2];exact h
  | Aj f cs =>
    simp only at h ⊢
    cases e2:bP (cs.map (qX1 st)) with
    | none=>rw[e2] at h;cases h
    | some ds=>rw[e2] at h;rw[OI (fun x y=>VJ) _ _ e2];exact h
  | _=>exact VJ h
 ·cases h
def frC:AV→Bool
 | .uniq _ _ _ cs=>cs.all (Y6 9)
 | x=>Y6 9 x
def fr1:AV→Bool
 | .agg cs=>cs.all frC
 | x=>frC x
def fr:AV→Bool
 | .dZ vs=>vs.all fr1
 | x=>fr1 x
theorem vX {x:AV} (h:frC x=true):GA x:=by
 cases x with
 | uniq e sz n cs=>exact fun c hc=>Rd 9 c (List.all_eq_true.1 h c hc)
 | _=>exact Rd 9 _ h
theorem vY {x:AV} (h:fr1 x=true):GB x:=by
 cases x with
 | agg cs=>exact fun c hc=>vX (List.all_eq_true.1 h c hc)
 | uniq e sz n cs=>exact vX (x:=.uniq e sz n cs) h
 | _=>first|exact vX (x:=AV.v _) h|exact vX (x:=AV.sl _ _) h|exact vX (x:=AV.cl _ _) h|exact vX (x:=AV.ip _ _) h|exact vX (x:=AV.ptr _ _ _) h|exact vX (x:=AV.own _ _) h|exact vX (x:=AV.mp _ _) h|exact vX (x:=AV.Aj _ _) h|exact vX (x:=AV.dZ _) h|exact vX (x:=AV.uniq _ _ _ _) h|exact vX (x:=AV.vw _ _ _ _) h
theorem aNP {x:AV} (h:fr x=true):Sq x:=by
 cases x with
 | dZ cs=>exact fun c hc=>vY (List.all_eq_true.1 h c hc)
 | uniq e sz n cs=>exact vY (x:=.uniq e sz n cs) h
 | _=>first|exact vY (x:=AV.v _) h|exact vY (x:=AV.agg _) h|exact vY (x:=AV.sl _ _) h|exact vY (x:=AV.cl _ _) h|exact vY (x:=AV.ip _ _) h|exact vY (x:=AV.ptr _ _ _) h|exact vY (x:=AV.own _ _) h|exact vY (x:=AV.mp _ _) h|exact vY (x:=AV.Aj _ _) h|exact vY (x:=AV.uniq _ _ _ _) h|exact vY (x:=AV.vw _ _ _ _) h
def aDx (r:AV) (st:St) (dst:Option Nat):Option mT :=
 match F9 r with
 | some true=>some { dst:=dst,val:=r }
 | some false =>
   match dst with
   | some d=>some { dst:=some d,val:=(SP d (st.aO d) r).1,new:=some (d,(SP d (st.aO d) r).2)}
   | none=>none
 | none=>none
theorem l8 {r:AV} {st:St} {dst:Option Nat} {e:mT} (h:aDx r st dst=some e):iM r st dst=some e:=by
 unfold aDx at h;unfold iM;split at h
 ·rename_i e;rw[if_pos (f9t e)];exact h
 ·rename_i e;rw[if_neg (f9f e)];exact h
 ·cases h
noncomputable def qFn (call:Nat→List AV→Option AV) (g:Nat) (args:List AV) (st:St) (dst:Option Nat):Option mT :=
 match HM F9 args with
 | some true=>cC (call g args) fun r=>aDx r st dst
 | some false =>
   match bP (args.map (qX st)) with
   | some xs=>cC (call g xs) fun r=>bif fr r then aDx r st dst else none
   | none=>none
 | none=>none
abbrev zU (c c':Nat→List AV→Option AV):Prop:=∀g xs r,c g xs=some r→c' g xs=some r
theorem Hn {α γ:Type} {x y:Option α} {f g:α→Option γ} {r:γ} (h:cC x f=some r) (hx:∀a,x=some a→y=some a) (hf:∀a,f a=some r→g a=some r):cC y g=some r:=by
 cases e:x with
 | none=>rw[e] at h;cases h
 | some a=>rw[e] at h;rw[hx a e];exact hf a h
theorem HO {call call':Nat→List AV→Option AV} (hc:zU call call') {g:Nat} {args:List AV} {st:St} {dst:Option Nat} {e:mT} (h:qFn call g args st dst=some e):aN call' g args st dst=some e:=by
 unfold qFn at h;unfold aN;split at h
 ·rename_i e;rw[if_pos (fLt e)];exact Hn h (hc _ _) fun a h=>l8 h
 ·rename_i e;rw[if_neg (fLf e)];split at h
  ·rename_i e2;rw[OI (fun x y=>l7) _ _ e2]
   refine Hn h (hc _ _) fun a h=>?_
   cases e3:fr a with
   | false=>rw[e3] at h;cases h
   | true=>rw[e3] at h;rw[if_pos (aNP e3)];exact l8 h
  ·cases h
 ·cases h
noncomputable def qMv (call:Nat→List AV→Option AV) (g:Nat) (args:List AV) (st:St) (dst:Option Nat):Option mT :=
 match args with
 | .own s k :: rest =>
   match st.heap s k with
   | some (.row e sz n cs) =>
     match HM F9 cs,HM F9 rest with
     | some true,some true =>
       match call g (.uniq e sz n cs :: rest) with
       | some (.uniq e' sL n' Ar) =>
         match dst with
         | some d=>some { dst:=some d,val:=.own d (st.aO d),dM:=some (s,k,none),new:=some (d,[.row e' sL n' Ar])}
         | none=>none
       | some (.dZ [.uniq e' sL n' Ar])=>some { dst:=dst,val:=.dZ [],dM:=some (s,k,some (.row e' sL n' Ar))}
       | _=>none
     | _,_=>none
   | _=>none
 | args=>match HM F9 args with
   | some true=>qFn call g args st dst
   | _=>none
theorem aHI {call call':Nat→List AV→Option AV} (hc:zU call call') {g:Nat} {args:List AV} {st:St} {dst:Option Nat} {e:mT} (h:qMv call g args st dst=some e):jV call' g args st dst=some e:=by
 unfold qMv at h;unfold jV;split at h
 ·rename_i s k rest;simp only
  split at h
  ·rename_i e sz n cs hh;simp only[hh];split at h
   ·rename_i e1 e2;rw[if_pos ⟨fLt e1,fLt e2⟩];cases e3:call g (.uniq e sz n cs :: rest) with
    | none=>rw[e3] at h;cases h
    | some r=>rw[e3] at h;rw[hc _ _ _ e3];exact h
   ·cases h
  ·cases h
 ·rename_i hn;split at h
  ·rename_i e;split
   ·rename_i s k rest;exact absurd rfl (hn s k rest)
   ·rw[if_pos (fLt e)];exact HO hc h
  ·cases h
def aHJ (c:AV):Bool :=
 match F9 c with
 | some true=>true
 | some false=>match c with
   | .own _ _=>true
   | _=>false
 | none=>false
def aDy (x:AV):Bool :=
 match F9 x with
 | some true=>true
 | some false=>match x with
   | .own _ _=>true
   | .agg cs=>cs.all aHJ
   | _=>false
 | none=>false
theorem aDz {c:AV} (h:aHJ c=true):Flat c∨∃s k,c=.own s k:=by
 unfold aHJ at h;split at h
 ·rename_i e;exact .inl (f9t e)
 ·split at h
  ·exact .inr ⟨_,_,rfl⟩
  ·cases h
 ·cases h
theorem aDA {x:AV} (h:aDy x=true):LD x:=by
 unfold aDy at h;split at h
 ·rename_i e;exact .inl (f9t e)
 ·split at h
  ·exact .inr (.inl ⟨_,_,rfl⟩)
  ·exact .inr (.inr ⟨_,rfl,fun c hc=>aDz (List.all_eq_true.1 h c hc)⟩)
  ·cases h
 ·cases h
def Y8 (r:AV) (st:St) (dst:Option Nat) (s k:Nat):Option mT :=
 match F9 r with
 | some true=>some { dst:=dst,val:=r,dM:=some (s,k,none)}
 | some false =>
   match r,dst with
   | .uniq e sz n cs,some d=>bif cs.all (Y6 9) then some { dst:=some d,val:=.own d (st.aO d),dM:=some (s,k,none),new:=some (d,[.row e sz n cs])} else none
   | _,_=>none
 | none=>none
theorem Y9 {r:AV} {st:St} {dst:Option Nat} {s k:Nat} {e:mT} (h:Y8 r st dst s k=some e):yX r st dst s k=some e:=by
 unfold Y8 at h;unfold yX;split at h
 ·rename_i e;rw[if_pos (f9t e)];exact h
 ·rename_i e;rw[if_neg (f9f e)];split at h
  ·rename_i cs d;cases e3:cs.all (Y6 9) with
   | false=>rw[e3] at h;cases h
   | true=>rw[e3] at h;simp only;rw[if_pos fun c hc=>Rd 9 c (List.all_eq_true.1 e3 c hc)];exact h
  ·cases h
 ·cases h
noncomputable def aHK (call:Nat→List AV→Option AV) (g:Nat) (args:List AV) (st:St) (dst:Option Nat):Option mT :=
 match args.flatMap iW with
 | [(s,k)] =>
   bif args.all aDy then
    match bP (args.map (qX st)) with
    | some xs=>cC (call g xs) fun r=>Y8 r st dst s k
    | none=>none
   else none
 | _=>qFn call g args st dst
theorem aDB {call call':Nat→List AV→Option AV} (hc:zU call call') {g:Nat} {args:List AV} {st:St} {dst:Option Nat} {e:mT} (h:aHK call g args st dst=some e):fC call' g args st dst=some e:=by
 unfold aHK at h;unfold fC;split at h
 ·rename_i s k ek;simp only[ek];cases e3:args.all aDy with
  | false=>rw[e3] at h;cases h
  | true =>
    rw[e3] at h;rw[if_pos fun x hx=>aDA (List.all_eq_true.1 e3 x hx)]
    simp only[cond_true] at h;split at h
    ·rename_i e2;rw[OI (fun x y=>l7) _ _ e2]
     exact Hn h (hc _ _) fun a h=>Y9 h
    ·cases h
 ·rename_i hn;split
  ·rename_i s k ek;exact absurd ek (hn s k)
  ·exact HO hc h
section ext
variable [Ext] (P:Program)
noncomputable def aHL (call:Nat→List AV→Option AV) (f:Operand) (args:List AV) (st:St) (dst:Option Nat):Option mT :=
 match f with
 | .func g=>if Ext.mv g=true then qMv call g args st dst else if Ext.eat g dst=true then aHK call g args st dst else qFn call g args st dst
 | f =>
   match BJ (st.ev f) with
   | some (g,nJ)=>qFn call g (args++nJ) st dst
   | none=>none
theorem aDC {call call':Nat→List AV→Option AV} (hc:zU call call') {f:Operand} {args:List AV} {st:St} {dst:Option Nat} {e:mT} (h:aHL call f args st dst=some e):mQ call' f args st dst=some e:=by
 unfold aHL at h;unfold mQ;split at h
 ·rename_i g;simp only
  by_cases h1:Ext.mv g=true
  ·rw[if_pos h1] at h ⊢;exact aHI hc h
  ·rw[if_neg h1] at h ⊢;by_cases h2:Ext.eat g dst=true
   ·rw[if_pos h2] at h ⊢;exact aDB hc h
   ·rw[if_neg h2] at h ⊢;exact HO hc h
 ·rename_i hn;split
  ·rename_i g;exact absurd rfl (hn g)
  ·split at h
   ·rename_i e;simp only[e];exact HO hc h
   ·cases h
def isNil:AV→Bool
 | .v (.slice none 0 0)=>true
 | _=>false
theorem Z0 {x:AV}:isNil x=true↔x=.v (.slice none 0 0):=by
 constructor
 ·intro h;unfold isNil at h;split at h
  ·rfl
  ·cases h
 ·rintro rfl;rfl
def Vq (st:St) (T:Nat) (s x:AV):Bool:=isNil s && ((dN P T).isSome && (match aQ st x with|some (0,_)=>true|_=>false))
theorem Yh {st:St} {T:Nat} {s x:AV}:Vq P st T s x=true↔Br P st T s x:=by
 unfold Vq Br;rw[Bool.and_eq_true,Bool.and_eq_true,Z0];have:(match aQ st x with|some (0,_)=>true|_=>false)=true↔(aQ st x).map Prod.fst=some 0:=by
  cases e:aQ st x with
  | none=>simp
  | some p =>
    obtain⟨n,cs⟩:=p
    cases n<;>simp
 rw[this]
noncomputable def aHM (call:Nat→List AV→Option AV) (c:Call) (dst:Option Nat) (st:St):Option mT :=
 match c.callee with
 | .value f=>aHL call f (c.args.toList.map st.ev) st dst
 | .builtin .append =>
   cC dst fun d =>
    match c.args.toList,c.argTypes.toList with
    | [s,x],[T,T'] =>
      if T=T' then
       if Ext.va T d=true then (kJ P st T (st.ev s) (st.ev x)).map fun u=>{ dst:=some d,val:=.vw u.1 u.2.1 0 u.2.2.2,dM:=some (u.1,u.2.1,some u.2.2.1)} else
       bif Ext.pa T d && Vq P st T (st.ev s) (st.ev x) then some { dst:=some d,val:=.v (.slice none 0 0)} else
       cC (dC P st T (st.ev s) (st.ev x)) fun ur=>some { dst:=some d,val:=.own d (st.aO d),dM:=ur.1.map fun p=>(p.1,p.2,none),new:=some (d,[ur.2])}
      else none
    | _,_=>none
 | _=>gP P call c dst st
theorem aDD {call call':Nat→List AV→Option AV} (hc:zU call call') {c:Call} {dst:Option Nat} {st:St} {e:mT} (h:aHM P call c dst st=some e):gP P call' c dst st=some e:=by
 obtain⟨callee,args,tJ⟩:=c
 cases callee with
 | value f=>exact aDC hc h
 | builtin b =>
   cases b with
   | append =>
     unfold aHM at h;unfold gP;simp only at h ⊢
     refine Hn h (fun _ h=>h) fun d h=>?_
     split at h
     ·rename_i s x T T' ha hb
      simp only[ha,hb];split at h
      ·rename_i hT;rw[if_pos hT];split at h
       ·rename_i hv;rw[if_pos hv];exact h
       ·rename_i hv;rw[if_neg hv];cases e3:(Ext.pa _ d && Vq P st _ (st.ev _) (st.ev _)) with
        | false =>
          rw[e3] at h;rw[if_neg]
          ·exact h
          ·rintro⟨h1,h2⟩
           rw[h1,(Yh P).2 h2] at e3;cases e3
        | true =>
          rw[e3] at h;rw[Bool.and_eq_true] at e3;rw[if_pos ⟨e3.1,(Yh P).1 e3.2⟩];exact h
      ·cases h
     ·cases h
   | _=>exact h
 | _=>exact h
def Tc:List Bool→List AV→List AV→Option Bool
 | [],[],[]=>some true
 | true :: l,.v (.int k a) :: xs,.v (.int k' b) :: ys=>if k=k' then (Tc l xs ys).map fun r=>decide (a=b) && r else none
 | false :: l,.v (.bool a) :: xs,.v (.bool b) :: ys=>(Tc l xs ys).map fun r=>(a == b) && r
 | _,_,_=>none
theorem Z1:∀(l:List Bool) (xs ys:List AV) (b:Bool),Tc l xs ys=some b→gW l xs ys∧(b=true↔xs=ys):=by
 intro l xs ys;induction l generalizing xs ys with
 | nil =>
   intro b h;unfold Tc at h;split at h<;>first|(cases h;done)|skip
   ·cases h;exact⟨by unfold gW;trivial,by simp⟩
   ·rename_i h1 _ _ _;simp at *
   ·simp at *
 | cons t l ih =>
   intro b h;unfold Tc at h;split at h
   ·rename_i e;cases e
   ·rename_i l' k a xs' k' b' ys' e
    cases e
    split at h
    ·rename_i hk;cases e2:Tc l xs' ys' with
     | none=>rw[e2] at h;cases h
     | some r =>
       rw[e2] at h;cases h
       obtain⟨h1,h2⟩:=ih _ _ _ e2
       refine⟨⟨hk,h1⟩, ?_⟩
       subst hk;simp[h2]
    ·cases h
   ·rename_i l' a xs' b' ys' e
    cases e
    cases e2:Tc l xs' ys' with
    | none=>rw[e2] at h;cases h
    | some r =>
      rw[e2] at h;cases h
      obtain⟨h1,h2⟩:=ih _ _ _ e2
      refine⟨h1, ?_⟩
      simp[h2]
   ·cases h
def F4 (T:Nat) (xs ys:List AV):Option Bool :=
 match eI P 20 T with
 | some l=>bif cY P T && !P.eqGuardType P.depth T then Tc l xs ys else none
 | none=>none
theorem l9 {T:Nat} {xs ys:List AV} {b:Bool} (h:F4 P T xs ys=some b):tN P T xs ys=some b:=by
 unfold F4 at h;unfold tN;split at h
 ·rename_i l e;simp only[e];cases e3:(cY P T && !P.eqGuardType P.depth T) with
  | false=>rw[e3] at h;cases h
  | true =>
    rw[e3] at h;rw[Bool.and_eq_true,Bool.not_eq_true'] at e3;obtain⟨h1,h2⟩:=Z1 _ _ _ _ h
    rw[if_pos ⟨e3.1,e3.2,h1⟩];congr 1
    cases b with
    | true=>exact decide_eq_true (h2.1 rfl)
    | false=>exact decide_eq_false fun e=>by have:=h2.2 e;cases this
 ·cases h
noncomputable def aDE (op:BinOp) (T:Nat) (x y:AV):Option AV :=
 match x,y with
 | .agg xs,.agg ys =>
   match op with
   | .eql=>(F4 P T xs ys).map fun b=>.v (.bool b)
   | .neq=>(F4 P T xs ys).map fun b=>.v (.bool (!b))
   | _=>none
 | x,y=>fS P op T x y
theorem aDF {op:BinOp} {T:Nat} {x y z:AV} (h:aDE P op T x y=some z):fS P op T x y=some z:=by
 unfold aDE at h;split at h
 ·rename_i xs ys;unfold fS;simp only
  split at h
  ·simp only
   cases e:F4 P T xs ys with
   | none=>rw[e] at h;cases h
   | some b=>rw[e] at h;rw[l9 P e];exact h
  ·simp only
   cases e:F4 P T xs ys with
   | none=>rw[e] at h;cases h
   | some b=>rw[e] at h;rw[l9 P e];exact h
  ·cases h
 ·exact h
noncomputable def qOp (call:Nat→List AV→Option AV) (o:Oper) (st:St):Option mT :=
 match o.op with
 | .call c=>aHM P call c o.dst st
 | .binOp op T x y _=>(aDE P op T (st.ev x) (st.ev y)).map fun v=>{ dst:=o.dst,val:=v }
 | _=>cZ P call o st
theorem VK {call call':Nat→List AV→Option AV} {o:Oper} {st:St} (h:∀c,o.op≠.call c):cZ P call o st=cZ P call' o st:=by
 unfold cZ;split<;>first|rfl|skip
 rename_i c e;exact absurd e (h c)
theorem aHN {call call':Nat→List AV→Option AV} (hc:zU call call') {o:Oper} {st:St} {e:mT} (h:qOp P call o st=some e):cZ P call' o st=some e:=by
 unfold qOp at h;split at h
 ·rename_i c ec;unfold cZ;simp only[ec];exact aDD P hc h
 ·rename_i op T x y z ec;unfold cZ;simp only[ec,iQ];cases e2:aDE P op T (st.ev x) (st.ev y) with
  | none=>rw[e2] at h;cases h
  | some v=>rw[e2] at h;rw[aDF P e2];exact h
 ·rename_i h1 h2;rw[← VK P (call:=call) (call':=call') h1];exact h
abbrev VL (q:Nat→List AV→QS→Option (AV × QS)) (i:Nat→List AV→St→Option (AV × St)):Prop:=∀g xs s r,q g xs s=some r→i g xs s.abs=some (r.1,r.2.abs)
noncomputable def aDG (b:Bool) (call:Nat→List AV→Option AV) (inl:Nat→List AV→QS→Option (AV × QS)) (ops:Array Oper) (o:Oper) (q:QS):Option QS :=
 match (if b=true then Cj o else none) with
 | some (g,args) =>
   match gv ops q.abs o.guard with
   | some t=>if t=true then cC (inl g (args.map q.abs.ev) q) fun r=>nfA r.1 fun x=>some ((q.back r.2).put o.dst x) else some (q.put o.dst (.v undef))
   | none=>none
 | none =>
   match gv ops q.abs o.guard with
   | some t=>if t=true then cC (qOp P call o q.abs) fun e=>Y1 e fun e=>some (q.app e) else some (q.put o.dst (.v undef))
   | none=>none
theorem aDH {b:Bool} {call call':Nat→List AV→Option AV} {inl:Nat→List AV→QS→Option (AV × QS)} {Z2:Nat→List AV→St→Option (AV × St)} (hc:zU call call') (hi:VL inl Z2) {ops:Array Oper} {o:Oper} {q q':QS} (h:aDG P b call inl ops o q=some q'):gJ P b call' Z2 ops o q.abs=some q'.abs:=by
 unfold aDG at h;unfold gJ;split at h
 ·rename_i g args e;simp only[e];split at h
  ·rename_i t e2;simp only[e2];split at h
   ·rename_i ht;rw[if_pos ht];cases e3:inl g (args.map q.abs.ev) q with
    | none=>rw[e3] at h;cases h
    | some r =>
      rw[e3] at h;simp only[cC,VI] at h;cases h
      rw[hi _ _ _ _ e3,Vp,OF];rfl
   ·rename_i ht;rw[if_neg ht];cases h;rw[Vp]
  ·cases h
 ·rename_i e;simp only[e];unfold cE;split at h
  ·rename_i t e2;simp only[e2];split at h
   ·rename_i ht;rw[if_pos ht];cases e3:qOp P call o q.abs with
    | none=>rw[e3] at h;cases h
    | some r =>
      rw[e3] at h;simp only[cC,Y2] at h;cases h
      rw[aHN P hc e3,aDv];rfl
   ·rename_i ht;rw[if_neg ht];cases h;rw[Vp]
  ·cases h
noncomputable def FG (b:Bool) (call:Nat→List AV→Option AV) (inl:Nat→List AV→QS→Option (AV × QS)) (ops:Array Oper):List Oper→QS→Option QS
 | [],q=>nfQ q some
 | o :: r,q=>cC (aDG P b call inl ops o q) (FG b call inl ops r)
theorem OJ {b:Bool} {call call':Nat→List AV→Option AV} {inl:Nat→List AV→QS→Option (AV × QS)} {Z2:Nat→List AV→St→Option (AV × St)} (hc:zU call call') (hi:VL inl Z2) {ops:Array Oper}:∀(l:List Oper) (q q':QS),FG P b call inl ops l q=some q'→lO P b call' Z2 ops l q.abs=some q'.abs
 | [],q,q',h=>by
   simp only[FG,aHG] at h;cases h;rfl
 | o :: r,q,q',h=>by
   rw[FG] at h;rw[lO];cases e:aDG P b call inl ops o q with
   | none=>rw[e] at h;cases h
   | some s =>
     rw[e] at h;rw[aDH P hc hi e];exact OJ hc hi r s q' h
def aHO (x y:AV):Bool :=
 match keyOf x,keyOf y with
 | some (some k),some (some k')=>!(k.1 == k'.1 && k.2 == k'.2)
 | some _,some _=>true
 | _,_=>false
theorem aDI {x y:AV} (h:aHO x y=true):fF x y:=by
 unfold aHO at h;unfold fF;cases e1:keyOf x with
 | none=>simp[e1] at h
 | some a =>
   cases e2:keyOf y with
   | none=>cases a<;>simp[e1,e2] at h
   | some b =>
     cases a with
     | none=>cases b<;>trivial
     | some a =>
       cases b with
       | none=>trivial
       | some b =>
         rw[e1,e2] at h;show a≠b
         rintro rfl
         simp at h
def swB (ops:Array Oper) (s:St) (p:Nat × Nat):Bool :=
 match (ops[p.1]?).bind gK,(ops[p.2]?).bind gK with
 | some aS,some bs=>aS.all fun a=>bs.all fun b=>aHO (s.env a) (s.env b)
 | _,_=>false
theorem aHP {ops:Array Oper} {s:St} {p:Nat × Nat} (h:swB ops s p=true):Kv ops s p:=by
 unfold swB at h;unfold Kv;split at h
 ·rename_i e1 e2;simp only[e1,e2];exact fun a ha b hb=>aDI (List.all_eq_true.1 (List.all_eq_true.1 h a ha) b hb)
 ·cases h
theorem Z3 {ops:Array Oper} {s:St}:∀(l:List (Nat × Nat)),l.all (swB ops s)=true→oY ops s l
 | [],_=>trivial
 | p :: l,h=>by
   rw[List.all_cons,Bool.and_eq_true] at h;exact⟨aHP h.1,Z3 l h.2⟩
noncomputable def BI (bi:Bool) (call:Nat→List AV→Option AV) (inl:Nat→List AV→QS→Option (AV × QS)):Nat→Code→QS→Option (Ex × QS)
 | 0,_,_=>none
 | n+1,c,q =>
   match c with
   | .skip=>some (.normal,q)
   | .region id ops _=>cC (FG P bi call inl ops ops.toList q) fun s=>bif bi && !(Ext.dyn id ops.size (pN ops)).all (swB ops s.abs) then none else some (.normal,s)
   | .seq a b=>cC (BI bi call inl n a q) fun r=>match r.1 with
     | .normal=>BI bi call inl n b r.2
     | e=>some (e,r.2)
   | .cond c a b =>
     match q.abs.ev c with
     | .v (.bool t)=>if t=true then BI bi call inl n a q else BI bi call inl n b q
     | _=>none
   | .block id b=>cC (BI bi call inl n b q) fun r=>some (r.1.inBlock id,r.2)
   | .loop b=>cC (BI bi call inl n b q) fun r=>match r.1 with
     | .normal=>BI bi call inl n (.loop b) r.2
     | e=>some (e,r.2)
   | .exit id=>some (.exit id,q)
   | .ret=>some (.ret,q)
   | _=>none
theorem HP {bi:Bool} {call:Nat→List AV→Option AV} {inl:Nat→List AV→QS→Option (AV × QS)} (hc:zU call (aD P)) (hi:VL inl (wY P)):∀(n:Nat) (c:Code) (q:QS) (r:Ex × QS),BI P bi call inl n c q=some r→wL P bi c q.abs=some (r.1,r.2.abs)
 | 0,_,_,_,h=>by cases h
 | n+1,c,q,r,h=>by
   have ih:=HP (bi:=bi) hc hi n
   cases c with
   | skip=>cases h;exact Yi P _
   | region id ops dr =>
     simp only[BI] at h;rw[Lq];cases e:FG P bi call inl ops ops.toList q with
     | none=>rw[e] at h;cases h
     | some s =>
       rw[e] at h;rw[OJ P hc hi _ _ _ e];simp only[cC] at h ⊢;cases e2:(bi && !(Ext.dyn id ops.size (pN ops)).all (swB ops s.abs)) with
       | true=>rw[e2] at h;cases h
       | false =>
         rw[e2] at h;cases h
         rw[if_neg];rintro⟨h1,h2⟩
         subst h1;rw[Bool.true_and,Bool.not_eq_false'] at e2;exact h2 (Z3 _ e2)
   | seq a b =>
     simp only[BI] at h;rw[Vl];cases e:BI P bi call inl n a q with
     | none=>rw[e] at h;cases h
     | some s =>
       rw[e] at h;rw[ih _ _ _ e];obtain⟨x,s⟩:=s
       simp only[cC,Nz] at h ⊢;cases x with
       | normal=>exact ih _ _ _ h
       | exit i=>cases h;rfl
       | ret=>cases h;rfl
   | cond c a b =>
     simp only[BI] at h;split at h
     ·rename_i t e;rw[Yj P c a b _ e];split at h
      ·rename_i ht;rw[if_pos ht];exact ih _ _ _ h
      ·rename_i ht;rw[if_neg ht];exact ih _ _ _ h
     ·cases h
   | block id b =>
     simp only[BI] at h;rw[Re];cases e:BI P bi call inl n b q with
     | none=>rw[e] at h;cases h
     | some s=>rw[e] at h;rw[ih _ _ _ e];cases h;rfl
   | loop b =>
     simp only[BI] at h;rw[Yk];cases e:BI P bi call inl n b q with
     | none=>rw[e] at h;cases h
     | some s =>
       rw[e] at h;rw[ih _ _ _ e];obtain⟨x,s⟩:=s
       simp only[cC,Nz] at h ⊢;cases x with
       | normal=>exact ih _ _ _ h
       | exit i=>cases h;rfl
       | ret=>cases h;rfl
   | exit id=>cases h;exact Yl P _ _
   | ret=>cases h;exact HQ P _
   | _=>cases h
def qR (st:St) (x:AV):Option AV :=
 match x with
 | .own s g =>
   match st.heap s g with
   | some (.row e sz n cs)=>match HM F9 cs with
     | some true=>some (.uniq e sz n cs)
     | _=>none
   | _=>none
 | x=>qX st x
theorem aNR {st:St} {x y:AV} (h:qR st x=some y):Gm st x=some y:=by
 unfold qR at h;split at h
 ·unfold Gm;simp only
  split at h
  ·rename_i hh;simp only[hh];split at h
   ·rename_i e;rw[if_pos (fLt e)];exact h
   ·cases h
  ·cases h
 ·rename_i hn;unfold Gm;split
  ·rename_i s g;exact absurd rfl (hn s g)
  ·exact l7 h
theorem aNS {st:St} {x y:AV} (h:qX st x=some y):yY st x=some y:=by
 unfold yY;rw[l7 h]
noncomputable def Z4 (fn:Func) (st:St):Option AV :=
 match fn.results.toList with
 | [r]=>cC (iI P st r) (qR st)
 | rs=>(bP (rs.map fun r=>cC (iI P st r) (qX st))).map .dZ
theorem aGk {α:Type} {f g:α→Option AV} (hf:∀x y,f x=some y→g x=some y):∀(l:List α) (r:List AV),bP (l.map f)=some r→bP (l.map g)=some r
 | [],r,h=>h
 | x :: l,r,h=>by
   rw[List.map_cons] at h ⊢;cases e:f x with
   | none=>rw[e] at h;cases h
   | some y =>
     rw[e] at h;rw[hf x y e];simp only[bP] at h ⊢;cases e2:bP (l.map f) with
     | none=>rw[e2] at h;cases h
     | some ys=>rw[e2] at h;rw[aGk hf l ys e2];exact h
theorem Z5 {fn:Func} {st:St} {y:AV} (h:Z4 P fn st=some y):sU P fn st=some y:=by
 unfold Z4 at h;unfold sU;split at h
 ·rename_i r e;simp only[e];exact Hn h (fun _ h=>h) fun a h=>aNR h
 ·rename_i rs hn;split
  ·rename_i r e;exact absurd e (hn r)
  ·cases e:bP (fn.results.toList.map fun r=>cC (iI P st r) (qX st)) with
   | none=>rw[e] at h;cases h
   | some ys =>
     rw[e] at h;rw[aGk (fun x y hxy=>Hn hxy (fun _ h=>h) fun a h=>aNS h) _ _ e]
     exact h
def qUC (st:St) (x:AV):Option AV :=
 match F9 x with
 | some true=>some x
 | some false =>
   match x with
   | .own s g =>
     match st.heap s g with
     | some (.row e sz n cs)=>match HM F9 cs with
       | some true=>some (.uniq e sz n cs)
       | _=>none
     | _=>none
   | _=>none
 | none=>none
theorem Z6 {st:St} {x y:AV} (h:qUC st x=some y):jW st x=some y:=by
 unfold qUC at h;unfold jW;split at h
 ·rename_i e;rw[if_pos (f9t e)];exact h
 ·rename_i e;rw[if_neg (f9f e)];split at h
  ·simp only
   split at h
   ·rename_i hh;simp only[hh];split at h
    ·rename_i e2;rw[if_pos (fLt e2)];exact h
    ·cases h
   ·cases h
  ·cases h
 ·cases h
def qU1 (st:St):AV→Option AV
 | .agg cs=>(bP (cs.map (qUC st))).map .agg
 | x=>qUC st x
theorem Z7 {st:St} {x y:AV} (h:qU1 st x=some y):pZ st x=some y:=by
 unfold qU1 at h;unfold pZ;split at h
 ·rename_i cs;simp only
  cases e:bP (cs.map (qUC st)) with
  | none=>rw[e] at h;cases h
  | some ys=>rw[e] at h;rw[OI (fun x y=>Z6) _ _ e];exact h
 ·rename_i hn;split
  ·rename_i cs;exact absurd rfl (hn cs)
  ·exact Z6 h
def qU (st:St):AV→Option AV
 | .dZ vs=>(bP (vs.map (qU1 st))).map .dZ
 | x=>qU1 st x
theorem aNV {st:St} {x y:AV} (h:qU st x=some y):xR st x=some y:=by
 unfold qU at h;unfold xR;split at h
 ·rename_i cs;simp only
  cases e:bP (cs.map (qU1 st)) with
  | none=>rw[e] at h;cases h
  | some ys=>rw[e] at h;rw[OI (fun x y=>Z7) _ _ e];exact h
 ·rename_i hn;split
  ·rename_i cs;exact absurd rfl (hn cs)
  ·exact Z7 h
def ndB:List (Nat × Nat)→Bool
 | []=>true
 | p :: r=>(r.all fun x=>!(Nat.beq p.1 x.1 && Nat.beq p.2 x.2)) && ndB r
theorem Z9:∀(l:List (Nat × Nat)),ndB l=true→l.Nodup
 | [],_=>List.nodup_nil
 | p :: r,h=>by
   rw[ndB,Bool.and_eq_true] at h;refine List.nodup_cons.2 ⟨fun hm=>?_,Z9 r h.2⟩
   have:=List.all_eq_true.1 h.1 p hm
   simp at this
noncomputable def aAa (fn:Func) (st:St):Option AV :=
 match fn.results.toList with
 | [r]=>cC (iI P st r) fun x=>bif ndB (jK x) then qU st x else none
 | rs=>cC (bP (rs.map fun r=>iI P st r)) fun xs=>bif ndB (jK (.dZ xs)) then qU st (.dZ xs) else none
theorem aAb {fn:Func} {st:St} {y:AV} (h:aAa P fn st=some y):Ea P fn st=some y:=by
 have key:∀x,(bif ndB (jK x) then qU st x else none)=some y→(if (jK x).Nodup then xR st x else none)=some y:=fun x h=>by
  cases e:ndB (jK x) with
  | false=>rw[e] at h;cases h
  | true=>rw[e] at h;rw[if_pos (Z9 _ e)];exact aNV h
 unfold aAa at h;unfold Ea;split at h
 ·rename_i r e;simp only[e];exact Hn h (fun _ h=>h) fun a h=>key a h
 ·rename_i rs hn;split
  ·rename_i r e;exact absurd e (hn r)
  ·exact Hn h (fun _ h=>h) fun a h=>key _ h
noncomputable def aHR (f:Nat) (fn:Func) (st:St):Option AV:=if Ext.qP f=true then aAa P fn st else Z4 P fn st
theorem n5 {f:Nat} {fn:Func} {st:St} {y:AV} (h:aHR P f fn st=some y):jA P f fn st=some y:=by
 unfold aHR at h;unfold jA;split at h
 ·rename_i e;rw[if_pos e];exact aAb P h
 ·rename_i e;rw[if_neg e];exact Z5 P h
def OkT (P:Program) (ok:Nat→Bool):Prop:=∀f fn,ok f=true→P.funcs[f]? = some fn→tX fn=true
noncomputable def aAc (ok:Nat→Bool) (call:Nat→List AV→Option AV) (inl:Nat→List AV→QS→Option (AV × QS)) (n f:Nat) (xs:List AV):Option AV :=
 match P.funcs[f]? with
 | some fn =>
   bif ok f then
    match fn.body with
    | some c=>cC (BI P (lI c) call inl n c (QS.init xs)) fun r=>match r.1 with
      | .exit _=>none
      | _=>aHR P f fn r.2.abs
    | none=>none
   else none
 | none=>none
theorem aAd {ok:Nat→Bool} (hk:OkT P ok) (hx:∀f xs,Ext.ext f xs=none) {call:Nat→List AV→Option AV} {inl:Nat→List AV→QS→Option (AV × QS)} (hc:zU call (aD P)) (hi:VL inl (wY P)) {n f:Nat} {xs:List AV} (hu:xs.any sI=false) {y:AV} (h:aAc P ok call inl n f xs=some y):aD P f xs=some y:=by
 unfold aAc at h;split at h
 ·rename_i fn e;cases e3:ok f with
  | false=>rw[e3] at h;cases h
  | true =>
    rw[e3] at h;simp only[cond_true] at h;split at h
    ·rename_i c eb;rw[Ym P e eb (hk f fn e3 e) xs (hx _ _) hu,← OG];cases e2:BI P (lI c) call inl n c (QS.init xs) with
     | none=>rw[e2] at h;cases h
     | some r =>
       rw[e2] at h;rw[HP P hc hi _ _ _ _ e2];obtain⟨x,s⟩:=r
       cases x with
       | exit i=>cases h
       | normal=>exact n5 P h
       | ret=>exact n5 P h
    ·cases h
 ·cases h
def aAe (fn:Func) (st:St):Option AV :=
 match fn.results.toList with
 | [r] =>
   match iI P st r with
   | some (.own s g) =>
     match st.heap s g with
     | some (.row e sz n cs)=>bif cs.all (Y6 9) then some (.uniq e sz n cs) else none
     | _=>none
   | some (.vw s g 0 k) =>
     match st.heap s g with
     | some (.row e sz n cs)=>bif (Nat.ble k n && Nat.beq cs.length (n * sz)) && cs.all (Y6 9) then some (.uniq e sz k (cs.take (k * sz))) else none
     | _=>none
   | _=>none
 | _=>none
theorem OK {fn:Func} {st:St} {y:AV} (h:aAe P fn st=some y):wJ P fn st=some y:=by
 unfold aAe at h;unfold wJ;split at h
 ·rename_i r e;simp only[e];split at h
  ·rename_i s g er;simp only[er];split at h
   ·rename_i a b n cs hh;simp only[hh];cases e3:cs.all (Y6 9) with
    | false=>rw[e3] at h;cases h
    | true=>rw[e3] at h;rw[if_pos fun c hc=>Rd 9 c (List.all_eq_true.1 e3 c hc)];exact h
   ·cases h
  ·rename_i s g k er;simp only[er];split at h
   ·rename_i a b n cs hh;simp only[hh];cases e3:((Nat.ble k n && Nat.beq cs.length (n * b)) && cs.all (Y6 9)) with
    | false=>rw[e3] at h;cases h
    | true =>
      rw[e3] at h;rw[Bool.and_eq_true,Bool.and_eq_true] at e3;rw[if_pos ⟨Nat.le_of_ble_eq_true e3.1.1,Nat.eq_of_beq_eq_true e3.1.2,fun c hc=>Rd 9 c (List.all_eq_true.1 e3.2 c hc)⟩]
      exact h
   ·cases h
  ·cases h
 ·cases h
noncomputable def aAf (ok:Nat→Bool) (call:Nat→List AV→Option AV) (inl:Nat→List AV→QS→Option (AV × QS)) (n f e sz m:Nat) (cs rest:List AV):Option AV :=
 match P.funcs[f]? with
 | some fn =>
   bif ok f then
    match fn.body with
    | some c=>cC (BI P (lI c) call inl n c (QS.oB e sz m cs rest)) fun r=>match r.1 with
      | .exit _=>none
      | _=>aAe P fn r.2.abs
    | none=>none
   else none
 | none=>none
theorem aAg {ok:Nat→Bool} (hk:OkT P ok) (hx:∀f xs,Ext.ext f xs=none) {call:Nat→List AV→Option AV} {inl:Nat→List AV→QS→Option (AV × QS)} (hc:zU call (aD P)) (hi:VL inl (wY P)) {n f e sz m:Nat} {cs rest:List AV} {y:AV} (h:aAf P ok call inl n f e sz m cs rest=some y):aD P f (.uniq e sz m cs :: rest)=some y:=by
 unfold aAf at h;split at h
 ·rename_i fn ef;cases e3:ok f with
  | false=>rw[e3] at h;cases h
  | true =>
    rw[e3] at h;simp only[cond_true] at h;split at h
    ·rename_i c eb;rw[Xk P ef eb (hk f fn e3 ef) _ _ _ _ _ (hx _ _),← F3];cases e2:BI P (lI c) call inl n c (QS.oB e sz m cs rest) with
     | none=>rw[e2] at h;cases h
     | some r =>
       rw[e2] at h;rw[HP P hc hi _ _ _ _ e2];obtain⟨x,s⟩:=r
       cases x with
       | exit i=>cases h
       | normal=>exact OK P h
       | ret=>exact OK P h
    ·cases h
 ·cases h
noncomputable def aAh (call:Nat→List AV→Option AV) (inl:Nat→List AV→QS→Option (AV × QS)) (n f:Nat) (xs:List AV) (q:QS):Option (AV × QS) :=
 match P.funcs[f]? with
 | some fn =>
   if Vx true fn=true then
    match fn.body with
    | some c=>cC (BI P true call inl n c ((QS.init xs).back q)) fun r=>match r.1 with
      | .exit _=>none
      | _=>(sW P fn r.2.abs).map fun x=>(x,r.2)
    | none=>none
   else none
 | none=>none
theorem aAi {call:Nat→List AV→Option AV} {inl:Nat→List AV→QS→Option (AV × QS)} (hc:zU call (aD P)) (hi:VL inl (wY P)) {n f:Nat} {xs:List AV} {q:QS} {r:AV × QS} (h:aAh P call inl n f xs q=some r):wY P f xs q.abs=some (r.1,r.2.abs):=by
 unfold aAh at h;split at h
 ·rename_i fn ef;split at h
  ·rename_i ok;split at h
   ·rename_i c eb;rw[Vm P ef eb ok];cases e2:BI P true call inl n c ((QS.init xs).back q) with
    | none=>rw[e2] at h;cases h
    | some u =>
      rw[e2] at h;have e3:=HP P hc hi _ _ _ _ e2
      rw[OF,OG] at e3;rw[e3];obtain⟨x,s⟩:=u
      have key:((sW P fn s.abs).map fun x=>(x,s))=some r→((sW P fn s.abs).map fun x=>(x,s.abs))=some (r.1,r.2.abs):=fun h=>by
       cases e4:sW P fn s.abs with
       | none=>rw[e4] at h;cases h
       | some z=>rw[e4] at h;cases h;rfl
      cases x with
      | exit i=>cases h
      | normal=>exact key h
      | ret=>exact key h
   ·cases h
  ·cases h
 ·cases h
noncomputable def O0 (ok:Nat→Bool) (K:Nat→List AV→Option AV):Nat→(Nat→List AV→Option AV) × (Nat→List AV→QS→Option (AV × QS))
 | 0=>(fun _ _=>none,fun _ _ _=>none)
 | n+1=>(fun f xs=>X9 xs fun xs =>
     match K f xs with
     | some r=>some r
     | none=>match pO xs with
     | some u=>aAf P ok (O0 ok K n).1 (O0 ok K n).2 n f u.1 u.2.1 u.2.2.1 u.2.2.2.1 u.2.2.2.2
     | none=>if xs.any sI=true then none else aAc P ok (O0 ok K n).1 (O0 ok K n).2 n f xs,
  fun f xs q=>X9 xs fun xs=>aAh P (O0 ok K n).1 (O0 ok K n).2 n f xs q)
theorem BW {xs:List AV} {u:Nat × Nat × Nat × List AV × List AV} (h:pO xs=some u):xs=.uniq u.1 u.2.1 u.2.2.1 u.2.2.2.1 :: u.2.2.2.2:=by
 unfold pO at h;split at h
 ·cases h;rfl
 ·cases h
theorem aAj {ok:Nat→Bool} (hk:OkT P ok) (hx:∀f xs,Ext.ext f xs=none) {K:Nat→List AV→Option AV} (hK:zU K (aD P)):∀n,zU (O0 P ok K n).1 (aD P)∧VL (O0 P ok K n).2 (wY P)
 | 0=>⟨fun g xs r h=>(by cases h),fun g xs s r h=>by cases h⟩
 | n+1=>by
   obtain⟨ih1,ih2⟩:=aAj hk hx hK n
   refine⟨fun g xs r h=>?_,fun g xs s r h=>?_⟩
   ·simp only[O0,HL] at h;split at h
    ·rename_i r' e
     rw[← h];exact hK _ _ _ e
    ·split at h
     ·rename_i u e;rw[BW e];exact aAg P hk hx ih1 ih2 h
     ·rename_i e;split at h
      ·cases h
      ·rename_i e2;exact aAd P hk hx ih1 ih2 (by simpa using e2) h
   ·simp only[O0,HL] at h;exact aAi P ih1 ih2 h
def HR:Option AV→Bool
 | some (.v (.bool b))=>b
 | _=>false
def noK:Nat→List AV→Option AV:=fun _ _=>none
theorem F5 {ok:Nat→Bool} (hk:OkT P ok) (hx:∀f xs,Ext.ext f xs=none) {K:Nat→List AV→Option AV} (hK:zU K (aD P)) (n:Nat) {f:Nat} {xs:List AV} (h:HR ((O0 P ok K n).1 f xs)=true):aD P f xs=some (.v (.bool true)):=by
 refine (aAj P hk hx hK n).1 _ _ _ ?_
 unfold HR at h;split at h
 ·rename_i b e;rw[e,h]
 ·cases h
end ext
end Go.Ab
end
namespace Go.Ab.Tryz
open Classical Go.Proofs Go.Ab
def okL:List Nat:=[151,30,32,46,47,49,64,65,70,71,73,76,80,81,83,85,86,87,89,98,101,102,109,130,138,139,140,142,144,145,148,149,150,156,157,158,160,161,162,163,164,165,166,175,176,177,178,180,181,186,190,191,192,193,194,196,197,198,199,207,208,209,223,224,225,239,240,241,242,243,244,245,248,249,250,251,252]
def okT:Nat→Bool:=fun f=>okL.any (Nat.beq f)
noncomputable def aNX:Bool:=okL.all fun f=>match Tryz.prog.funcs[f]? with|some fn=>tX fn|none=>true
theorem aAk:aNX=true:=by kernel_rfl
theorem aHS:OkT Tryz.prog okT:=fun f fn h e=>by
 obtain⟨g,hg,h2⟩:=List.any_eq_true.1 h
 rw[Nat.eq_of_beq_eq_true h2] at e;have:=List.all_eq_true.1 aAk g hg
 rw[e] at this;exact this
theorem aNY:HR ((O0 Tryz.prog okT noK 120).1 70 [])=true:=by kernel_rfl
theorem c70:aD Tryz.prog 70 []=some (.v (.bool true)):=F5 Tryz.prog aHS (fun _ _=>rfl) (fun _ _ _ h=>by cases h) 120 aNY
theorem k70 (st:St) (d:Option Nat):aN (aD Tryz.prog) 70 [] st d=some { dst:=d,val:=.v (.bool true)}:=bL (fun x h=>by cases h) c70 (.v _)
theorem OL (t:State) (ns:List Node) (Q R:Option (List Request)):(ol (wZ t ns Q R).1.1).length≤(ol Q).length+(ol R).length∧(wZ t ns Q R).2.length≤(ol R).length:=by
 have h:=Xu ns t.store.now (ol R) ((Q,t.bC),[])
 exact⟨h.1,by have h2:=h.2;rw[List.length_nil,Nat.zero_add] at h2;exact h2⟩
theorem c22 (l:List Int) (k:Int) (hl:(l.length:Int)≤9223372036854775807):aD Tryz.prog 22 [.sl l.length (aJ l),.v (.int .u64 k)]=some (.v (.bool true)):=by
 obtain⟨t,v,Q,R,hy,T⟩:=x24 l hl
 have ft:=T.td.flat
 have k24:=kx hy (cP (Ky l)) ft
 obtain⟨x1,hx1⟩:∃x,IntKind.u64.wrap ((BitVec.ofInt IntKind.u64.bits k &&& BitVec.ofInt IntKind.u64.bits 31).toNat:Int)=x:=⟨_,rfl⟩
 obtain⟨n,hn⟩:∃n,IntKind.u64.wrap (t.store.now+x1)=n:=⟨_,rfl⟩
 obtain⟨hB,L,hL,hL0⟩:=T.lists
 have Xe:v.L≠some []:=fun e=>hL0 (Option.some.inj (hL.symm.trans e))
 have hs:=T.gi.sd
 obtain⟨t',W6⟩:∃t',({ t with store:={ t.store with now:=n }}:State)=t':=⟨_,rfl⟩
 have T1:TD t' v Q R:=by
  rw[← W6];exact⟨⟨hs.jP,hs.dT,hs.gX,hs.early,hs.bW,hs.tree,hs.tables,hs.eV,hs.tB,hs.nB,hs.nL,hs.nQ,hs.nE,hs.nO,hs.nT,hs.nn⟩,T.td.Bx,T.td.ret,T.td.nQ,T.td.nR⟩
 have len:((ol Q).length:Int)+(ol R).length<800000:=by have:=T.lq;have:=T.lr;have:=T.E7;have:=T.mB;omega
 have srt:(ol R).Pairwise fun a b=>¬sB b a:=T.tr.asc
 obtain⟨R',h1,eR⟩:=c73 T1 T.rg.ne hB Xe T.gi.pos T.qn T.rn len srt
 have h2:=c74 T1 len
 have pl:=OL t' v.ns Q R
 have T2:TD (Ub t' v.ns Q R) v (wZ t' v.ns Q R).1.1 (nz (wZ t' v.ns Q R).2):=⟨T1.sd,rfl,rfl,by omega,by rw[nU];omega⟩
 have e1:({ t' with eK:=ov aA (wZ t' v.ns Q R).1.1,jM:=ov aA R',bC:=(wZ t' v.ns Q R).1.2 }:State)=Ra (Ub t' v.ns Q R) (Ub t' v.ns Q R).store (ov aA (wZ t' v.ns Q R).1.1) (ov aA R'):=rfl
 rw[e1] at h1;have kc:=k28 T2 (wZ t' v.ns Q R).1.1 R' rfl (by rw[eR,nU])
 have kU:=T2.fl
 have f1:Flat (.agg (aE (Ra (Ub t' v.ns Q R) (Ub t' v.ns Q R).store (ov aA (wZ t' v.ns Q R).1.1) (ov aA R')))):=(oF _).2 ⟨kU.1,kU.2.1,kU.2.2.1,kU.2.2.2.1,kU.2.2.2.2.1,kU.2.2.2.2.2.1,kU.2.2.2.2.2.2.1,dI _,dI _⟩
 have ka:=kx h1 (cP T1.flat) f1
 have kb:=kx h2 (cP T1.flat) T2.flat
 obtain⟨A,hA⟩:∃A,Ra (Ub t' v.ns Q R) (Ub t' v.ns Q R).store (ov aA (wZ t' v.ns Q R).1.1) (ov aA R')=A:=⟨_,rfl⟩
 obtain⟨B,hB2⟩:∃B,Ub t' v.ns Q R=B:=⟨_,rfl⟩
 rw[hA] at ka kc;rw[hB2] at kb kc;have aHT:=k70
 rw[cL Tryz.func22 rfl aTq rfl];refine kN ?_
 simp only[Z8,seval,k24,hx1,hn,W6,ka,kb,kc,aHT];exact⟨_,bX rfl (by simp only[E8,seval]<;>rfl) (by first|exact .v _|simp only[dW]),rfl⟩
noncomputable def n8 (ns:List Node) (now:Int) (l:List Request):Nat:=(l.filter fun r=>decide (¬now<r.due∧qI ns r.block)).length
noncomputable def kpQ (now:Int) (l:List Request):Nat:=(l.filter fun r=>decide (now<r.due)).length
theorem aAl (ns:List Node) (now:Int) (l:List Request):n8 ns now l≤l.length:=List.length_filter_le _ _
theorem aAm (now:Int) (l:List Request):kpQ now l≤l.length:=List.length_filter_le _ _
theorem aAn (ns:List Node) (now:Int) (l:List Request) (k:Nat) (h:k<l.length):n8 ns now (l.take (k+1))=n8 ns now (l.take k)+if ¬now<(gx bK l k).due∧qI ns (gx bK l k).block then 1 else 0:=by
 unfold n8;rw[tQ bK _ l k h,List.length_append];by_cases c:¬now<(gx bK l k).due∧qI ns (gx bK l k).block
 ·rw[if_pos (decide_eq_true c),if_pos c];rfl
 ·rw[if_neg (by simpa using c),if_neg c];rfl
theorem aAo (now:Int) (l:List Request) (k:Nat) (h:k<l.length):kpQ now (l.take (k+1))=kpQ now (l.take k)+if now<(gx bK l k).due then 1 else 0:=by
 unfold kpQ;rw[tQ bK _ l k h,List.length_append];by_cases c:now<(gx bK l k).due
 ·rw[if_pos (decide_eq_true c),if_pos c];rfl
 ·rw[if_neg (by simpa using c),if_neg c];rfl
theorem Oa (ns:List Node) (now:Int):∀(l:List Request) (a:(Option (List Request) × Int) × List Request),1≤a.1.2→a.1.2+l.length≤1000000 →
 ∃N:List Request,ol (pK ns now a l).1.1=ol a.1.1++N∧N.length=n8 ns now l∧∀r∈N,r.due=0∧a.1.2≤r.tagged.tag
 | [],a,hp,hb=>⟨[],(List.append_nil _).symm,rfl,fun r hr=>by cases hr⟩
 | r :: l,a,hp,hb=>by
   rw[List.length_cons] at hb;have hw:=aHu hp (by omega)
   have e0:pK ns now a (r :: l)=pK ns now (yD ns now a r) l:=rfl
   have ed:n8 ns now (r :: l)=(if ¬now<r.due∧qI ns r.block then 1 else 0)+n8 ns now l:=by
    unfold n8;rw[List.filter_cons];by_cases c:¬now<r.due∧qI ns r.block
    ·rw[if_pos (decide_eq_true c),if_pos c,List.length_cons];omega
    ·rw[if_neg (by simpa using c),if_neg c];omega
   rw[e0,ed];by_cases g1:now<r.due
   ·have e1:yD ns now a r=(a.1,a.2++[r]):=if_pos g1
    rw[e1,if_neg fun h=>h.1 g1]
    obtain⟨N,h1,h2,h3⟩:=Oa ns now l (a.1,a.2++[r]) hp (by dsimp only;omega)
    exact⟨N,h1,by omega,h3⟩
   ·by_cases g2:qI ns r.block
    ·have e1:yD ns now a r=((some (ol a.1.1++[⟨⟨a.1.2⟩,r.block,r.tries,0⟩]),IntKind.u64.wrap (a.1.2+1)),a.2):=(if_neg g1).trans (if_pos g2)
     rw[e1,hw,if_pos ⟨g1,g2⟩];obtain⟨N,h1,h2,h3⟩:=Oa ns now l ((some (ol a.1.1++[(⟨⟨a.1.2⟩,r.block,r.tries,0⟩:Request)]),a.1.2+1),a.2) (by dsimp only;omega) (by dsimp only;omega)
     refine⟨⟨⟨a.1.2⟩,r.block,r.tries,0⟩ :: N, ?_,by rw[List.length_cons];omega,fun x hx=>?_⟩
     ·rw[h1,Vo,List.append_assoc];rfl
     ·rcases List.mem_cons.1 hx with rfl|hx
      ·exact⟨rfl,Int.le_refl _⟩
      ·have:=h3 x hx
       exact⟨this.1,by have:=this.2;dsimp only at this;omega⟩
    ·have e1:yD ns now a r=a:=(if_neg g1).trans (if_neg g2)
     rw[e1,if_neg fun h=>g2 h.2]
     obtain⟨N,h1,h2,h3⟩:=Oa ns now l a hp (by omega)
     exact⟨N,h1,by omega,h3⟩
theorem c23 (l:List Int) (k:Int) (hl:(l.length:Int)≤9223372036854775807):aD Tryz.prog 23 [.sl l.length (aJ l),.v (.int .u64 k)]=some (.v (.bool true)):=by
 obtain⟨t,v,Q,R,hy,T⟩:=x24 l hl
 have ft:=T.td.flat
 have k24:=kx hy (cP (Ky l)) ft
 obtain⟨x1,hx1⟩:∃x,IntKind.u64.wrap ((BitVec.ofInt IntKind.u64.bits k &&& BitVec.ofInt IntKind.u64.bits 31).toNat:Int)=x:=⟨_,rfl⟩
 obtain⟨n,hn⟩:∃n,IntKind.u64.wrap (t.store.now+x1)=n:=⟨_,rfl⟩
 obtain⟨hB,L,hL,hL0⟩:=T.lists
 have Xe:v.L≠some []:=fun e=>hL0 (Option.some.inj (hL.symm.trans e))
 have hs:=T.gi.sd
 have tg0:=T.tq.pos
 have tgn:=T.nt
 obtain⟨t',W6⟩:∃t',({ t with store:={ t.store with now:=n }}:State)=t':=⟨_,rfl⟩
 have T1:TD t' v Q R:=by
  rw[← W6];exact⟨⟨hs.jP,hs.dT,hs.gX,hs.early,hs.bW,hs.tree,hs.tables,hs.eV,hs.tB,hs.nB,hs.nL,hs.nQ,hs.nE,hs.nO,hs.nT,hs.nn⟩,T.td.Bx,T.td.ret,T.td.nQ,T.td.nR⟩
 have hnw:t'.store.now=n:=by rw[← W6]
 have htg:t'.bC=t.bC:=by rw[← W6]
 have hrt:=T1.ret
 have hrq:=T1.Bx
 have htr:=T1.sd.tree
 have aDJ:=fun r=>mS v.ns r hs.nn
 have lQ:=T.lq
 have lR:((ol R).length:Int)≤256:=by have:=T.lr;have:=T.E7;omega
 have len:((ol Q).length:Int)+(ol R).length<800000:=by omega
 have srt:(ol R).Pairwise fun a b=>¬sB b a:=T.tr.asc
 obtain⟨R',h1,eR⟩:=c73 T1 T.rg.ne hB Xe T.gi.pos T.qn T.rn len srt
 have pl:=OL t' v.ns Q R
 obtain⟨N,n1,n2,n3⟩:=Oa v.ns n (ol R) ((Q,t.bC),[]) tg0 (by dsimp only;omega)
 obtain⟨_,_,_,_,n4⟩:=Hl v.ns n (ol R) ((Q,t.bC),[]) T.tq T.E6 (by dsimp only;omega)
 have eP:wZ t' v.ns Q R=pK v.ns n ((Q,t.bC),[]) (ol R):=by unfold wZ;rw[hnw,htg]
 rw[eP] at h1 eR pl;obtain⟨P,hP⟩:∃P,pK v.ns n ((Q,t.bC),[]) (ol R)=P:=⟨_,rfl⟩
 rw[hP] at h1 eR pl n1 n4;rw[n4,List.nil_append] at eR;obtain⟨⟨Q2,tag⟩,L2⟩:=P
 dsimp only at h1 eR pl n1
 obtain⟨u,hu⟩:∃u,({ t' with eK:=ov aA Q2,jM:=ov aA R',bC:=tag }:State)=u:=⟨_,rfl⟩
 have ur:u.eK=ov aA Q2:=by rw[← hu]
 have uR:u.jM=ov aA R':=by rw[← hu]
 rw[hu] at h1;have kU:=T1.fl
 have fu:Flat (.agg (aE u)):=by
  rw[← hu];exact (oF _).2 ⟨kU.1,kU.2.1,kU.2.2.1,kU.2.2.2.1,kU.2.2.2.2.1,kU.2.2.2.2.2.1,kU.2.2.2.2.2.2.1,dI _,dI _⟩
 have k73:=kx h1 (cP T1.flat) fu
 have aHT:=k70
 have dle:=aAl v.ns n (ol R)
 have kle:=aAm n (ol R)
 have lR':(ol R').length=kpQ n (ol R):=by rw[eR];rfl
 have lQ2:(ol Q2).length=(ol Q).length+n8 v.ns n (ol R):=by rw[n1,List.length_append,n2]
 rw[cL Tryz.func23 rfl aTr rfl];refine kN ?_
 simp only[Z8,seval,k24,hx1,hn,W6,k73];refine cB (fun m st=>∃k:Nat,(st.env 5=.ptr 5 0 0∧st.heap 5 0=some (.cells (aE t'))∧st.env 6=.ptr 6 0 0∧st.heap 6 0=some (.cells (aE u))∧st.env 7=.v (.int .i64 (n8 v.ns n ((ol R).take k)))∧st.env 8=.v (.int .i64 (kpQ n ((ol R).take k)))∧st.env 9=.v (.int .i64 k))∧k≤(ol R).length∧m=(ol R).length-k)
  (fun e st=>e=.exit 0∧(st.env 5=.ptr 5 0 0∧st.heap 5 0=some (.cells (aE t'))∧st.env 6=.ptr 6 0 0∧st.heap 6 0=some (.cells (aE u))∧st.env 7=.v (.int .i64 (n8 v.ns n (ol R)))∧st.env 8=.v (.int .i64 (kpQ n (ol R))))) (ol R).length ?step ?start ?rest
 case step =>
  rintro m st ⟨k,hI,hk,hm⟩
  by_cases aZ:(k:Int)<(ol R).length
  case neg =>
   have Dv:k=(ol R).length:=by omega
   subst Dv;rw[List.take_length] at hI;apply oT (.exit 0)
   ·simp only[Z8,seval,hI,hrt,aZ];rfl
   ·exact⟨rfl,by simp only[E8,seval,hI]⟩
  have q0:(0:Int)≤k:=by omega
  have hw:IntKind.i64.wrap ((k:Int)+1)=((k+1:Nat):Int):=by rw[pM _ (by omega) (by omega)];omega
  have dA:=aAn v.ns n (ol R) k (by omega)
  have dB:=aAo n (ol R) k (by omega)
  have bA:=aAl v.ns n ((ol R).take k)
  have bB:=aAm n ((ol R).take k)
  rw[List.length_take] at bA bB;obtain⟨A,hA⟩:∃A,n8 v.ns n ((ol R).take k)=A:=⟨_,rfl⟩
  obtain⟨B,hB3⟩:∃B,kpQ n ((ol R).take k)=B:=⟨_,rfl⟩
  rw[hA] at hI dA bA;rw[hB3] at hI dB bB;obtain⟨r,hr⟩:∃r,gx bK (ol R) (k:Int)=r:=⟨_,rfl⟩
  rw[hr] at dA dB;have wA:IntKind.i64.wrap ((A:Int)+1)=((A+1:Nat):Int):=by rw[pM _ (by omega) (by omega)];omega
  have wB:IntKind.i64.wrap ((B:Int)+1)=((B+1:Nat):Int):=by rw[pM _ (by omega) (by omega)];omega
  have hf:=eY v.ns r.block
  by_cases g1:n<r.due
  ·rw[if_neg fun h=>h.1 g1] at dA
   rw[if_pos g1] at dB;apply oN ((ol R).length-(k+1))
   ·simp only[Z8,seval,hI,aZ,q0,hr,hrt,htr,hnw,aDJ,g1,wB,hw];rfl
   ·exact⟨k+1,by rw[dA,dB];simp only[E8,seval,hI]<;>rfl,by omega,rfl⟩
  rw[if_neg g1] at dB;by_cases g2:0≤aP v.ns r.block
  case neg =>
   rw[if_neg fun h=>g2 h.2.1] at dA
   apply oN ((ol R).length-(k+1))
   ·simp only[Z8,seval,hI,aZ,q0,hr,hrt,htr,hnw,aDJ,g1,g2,hw];rfl
   ·exact⟨k+1,by rw[dA,dB];simp only[E8,seval,hI]<;>rfl,by omega,rfl⟩
  by_cases g3:(nd v.ns (aP v.ns r.block)).status=0
  ·rw[if_pos ⟨g1,g2,g3⟩] at dA;apply oN ((ol R).length-(k+1))
   ·simp only[Z8,seval,hI,aZ,q0,hr,hrt,htr,hnw,aDJ,g1,g2,hf.2,bt g3,wA,hw];rfl
   ·exact⟨k+1,by rw[dA,dB];simp only[E8,seval,hI]<;>rfl,by omega,rfl⟩
  ·rw[if_neg fun h=>g3 h.2.2] at dA
   apply oN ((ol R).length-(k+1))
   ·simp only[Z8,seval,hI,aZ,q0,hr,hrt,htr,hnw,aDJ,g1,g2,hf.2,bf g3,hw];rfl
   ·exact⟨k+1,by rw[dA,dB];simp only[E8,seval,hI]<;>rfl,by omega,rfl⟩
 case start=>exact⟨0,by rw[List.take_zero,show n8 v.ns n []=0 from rfl,show kpQ n []=0 from rfl];simp only[E8,seval]<;>rfl,by omega,by omega⟩
 case rest =>
  rintro e st ⟨rfl,hI⟩
  have e1:=bt (x:=((ol R').length:Int)) (y:=(kpQ n (ol R):Int)) (by omega)
  have w1:IntKind.i64.wrap (((ol Q).length:Int)+(n8 v.ns n (ol R):Nat))=((ol Q2).length:Int):=by rw[pM _ (by omega) (by omega)];omega
  have e2:=bt (x:=((ol Q2).length:Int)) (y:=((ol Q2).length:Int)) rfl
  simp only[Z8,seval,hI,uR,ur,hrq,e1,w1,e2];refine cB (fun m st=>∃k:Nat,(st.env 5=.ptr 5 0 0∧st.heap 5 0=some (.cells (aE t'))∧st.env 6=.ptr 6 0 0∧st.heap 6 0=some (.cells (aE u))∧st.env 12=.v (.int .i64 k))∧k≤(ol R').length∧m=(ol R').length-k)
   (fun e st=>e=.exit 2∧(st.env 5=.ptr 5 0 0∧st.heap 5 0=some (.cells (aE t'))∧st.env 6=.ptr 6 0 0∧st.heap 6 0=some (.cells (aE u)))) (ol R').length ?Nv ?Es ?Hh
  case Nv =>
   rintro m st ⟨k,hI,hk,hm⟩
   by_cases aZ:(k:Int)<(ol R').length
   case neg =>
    apply oT (.exit 2)
    ·simp only[Z8,seval,hI,uR,aZ];rfl
    ·exact⟨rfl,by simp only[E8,seval,hI]⟩
   have q0:(0:Int)≤k:=by omega
   have hw:IntKind.i64.wrap ((k:Int)+1)=((k+1:Nat):Int):=by rw[pM _ (by omega) (by omega)];omega
   have hd:¬(gx bK (ol R') (k:Int)).due≤n:=by
    have F6:k<(ol R').length:=by omega
    rw[l4 F6];have hm:=List.getElem_mem F6
    have ZJ:(ol R')[k]∈(ol R).filter fun r=>decide (n<r.due):=by rw[← eR];exact hm
    have:=(List.mem_filter.1 ZJ).2
    have:=of_decide_eq_true this
    omega
   apply oN ((ol R').length-(k+1))
   ·simp only[Z8,seval,hI,uR,hnw,aZ,q0,hd,hw];rfl
   ·exact⟨k+1,by simp only[E8,seval,hI],by omega,rfl⟩
  case Es=>exact⟨0,by simp only[E8,seval,hI]<;>rfl,by omega,by omega⟩
  case Hh =>
   rintro e st ⟨rfl,hI⟩
   simp only[Z8,seval,hI,hrq];refine cB (fun m st=>∃k:Nat,(st.env 5=.ptr 5 0 0∧st.heap 5 0=some (.cells (aE t'))∧st.env 6=.ptr 6 0 0∧st.heap 6 0=some (.cells (aE u))∧st.env 13=.v (.int .i64 k))∧(ol Q).length≤k∧k≤(ol Q2).length∧m=(ol Q2).length-k)
    (fun e st=>e=.exit 4) ((ol Q2).length-(ol Q).length) ?step3 ?start3 ?rest3
   case step3 =>
    rintro m st ⟨k,hI,vI,hk,hm⟩
    by_cases aZ:(k:Int)<(ol Q2).length
    case neg =>
     apply oT (.exit 4)
     ·simp only[Z8,seval,hI,ur,aZ];rfl
     ·rfl
    have q0:(0:Int)≤k:=by omega
    have hw:IntKind.i64.wrap ((k:Int)+1)=((k+1:Nat):Int):=by rw[pM _ (by omega) (by omega)];omega
    have hd:(gx bK (ol Q2) (k:Int)).due=0∧t.bC≤(gx bK (ol Q2) (k:Int)).tagged.tag:=by
     have F6:k<(ol Q2).length:=by omega
     rw[l4 F6];have ZJ:(ol Q2)[k]∈N:=by
      have e:(ol Q2)[k]=(ol Q++N)[k]'(by rw[← n1];exact F6):=by congr 1
      rw[e,List.getElem_append_right vI];exact List.getElem_mem _
     exact n3 _ ZJ
    have h2:¬(gx bK (ol Q2) (k:Int)).tagged.tag<t.bC:=by omega
    apply oN ((ol Q2).length-(k+1))
    ·simp only[Z8,seval,hI,ur,htg,aZ,q0,bt hd.1,h2,hw];rfl
    ·exact⟨k+1,by simp only[E8,seval,hI],by omega,by omega,rfl⟩
   case start3=>exact⟨(ol Q).length,by simp only[E8,seval,hI]<;>rfl,Nat.le_refl _,by omega,rfl⟩
   case rest3 =>
    rintro e st rfl
    simp only[Z8,seval,aHT];exact⟨_,bX rfl (by simp only[E8,seval]<;>rfl) (by first|exact .v _|simp only[dW]),rfl⟩
end Go.Ab.Tryz
