/-
  Part 17 of the proof: an evaluator of programs, its soundness, and what functions of this program compute.
-/
import Derived.Test.YtmcjkemalibacaaGreatK16
import Derived.Test.YtmcjkemalibacaaGreatK14
import Derived.Test.YtmcjkemalibacaaGreatK5
set_option linter.all false
set_option maxRecDepth 20000
set_option maxHeartbeats 40000000
namespace Go.Ab.Tryz
open Classical Go.Proofs Go.Ab
theorem aHi:aE 0 1 (some 6)=[]/\aE 1 3 (some 10)=[]/\aE 2 3 (some 13)=[]/\aE 3 2 (some 15)=[]/\aE 5 3 (some 18)=[]/\aE 6 3 (some 20)=[]/\aE 7 4 (some 23)=[]:=⟨rfl,rfl,rfl,rfl,rfl,rfl,rfl⟩
theorem aEA (L:List Request) (q:Request) (k:Nat) (hk:k<L.length) (hn:L.length<=1000000) {s c g:Nat} (h2:¬(55=s/\g=c)) (st:St) (e1:st.heap s c=some (.row 63 35 L.length (aA L))) (e2:st.heap 55 g=some (.row 63 35 1 (bA q))) :
 rK Tryz.prog 142 [.own s c,.v (.int .i64 k),.own 55 g] st=some (.own s (st.aK s),(st.gT s c none).new s (.row 63 35 (L.length+1) (aA (L.take k++[q]++L.drop k)))):=by
 suffices h:yD [.own s c,.v (.int .i64 k),.own 55 g] st=some (.own s (st.aK s),(st.gT s c none).new s (.row 63 35 (L.length+1) (aA (L.take k++[q]++L.drop k)))) from aA6 Tryz.prog h
 have gI:(55,g)≠(s,c):=fun e=>h2 (by simpa using e)
 have hc:True/\True/\True/\True/\True/\(0:Int)<=(k:Int)/\(k:Int)<L.length/\L.length<=1000000/\(55,g)≠(s,c):=⟨trivial,trivial,trivial,trivial,trivial,by omega,by omega,hn,gI⟩
 unfold yD;simp only[e1,e2];rw[if_pos hc];have hq:aA [q]=bA q:=by simp[aA]
 rw[Int.toNat_natCast,YP,YQ,<- hq,<- IT,<- IT]
theorem aEB (L:List Request) (q:Request) (hn:(L.length:Int)<1000000) {s c g:Nat} (h1:s≠25) (Ie:St) (e1:Ie.heap s c=some (.row 63 35 L.length (aA L))) (e2:Ie.heap 55 g=some (.row 63 35 1 (bA q))) :
 ∃st',rK Tryz.prog 142 [.own s c,.v (.int .i64 (L.length:Int)),.own 55 g] Ie=some (.own 25 (Ie.aK 25),st')/\((∀x h,h<Ie.aK x->¬(x=s/\h=c)->st'.heap x h=Ie.heap x h)/\∀x,Ie.aK x<=st'.aK x)/\st'.heap 25 (Ie.aK 25)=some (.row 63 35 (L++[q]).length (aA (L++[q]))):=by
 have s25:(25=s)=False:=eq_false (fun e=>h1 e.symm)
 have s25':(s=25)=False:=eq_false h1
 have sl:∀(sA:St) (lo:Operand),sA.heap s c=some (.row 63 35 L.length (aA L))->sA.ev lo=.v (.int .i64 (L.length:Int))->dA Tryz.prog sA 54 (.own s c) (some lo) none=some (.sl 0 []):=fun sA lo hh he=>by
  have h2:(0:Int)<=(L.length:Int):=by omega
  have h3:True/\¬((L.length:Int)=0/\0<L.length):=⟨trivial,by omega⟩
  simp only[dA,Mc,hh,he,h2,Int.le_refl,and_self,if_true];rw[if_pos h3]
 have hx:yD [.own s c,.v (.int .i64 (L.length:Int)),.own 55 g] Ie=none:=by
  unfold yD;simp only[e1,e2];rw[if_neg (fun h=>by have:=h.2.2.2.2.2.2.1;omega)]
 suffices h:∃r:AV × St,rK Tryz.prog 142 [.own s c,.v (.int .i64 (L.length:Int)),.own 55 g] Ie=some r/\r.1=.own 25 (Ie.aK 25)/\((∀x h,h<Ie.aK x->¬(x=s/\h=c)->r.2.heap x h=Ie.heap x h)/\∀x,Ie.aK x<=r.2.aK x)/\r.2.heap 25 (Ie.aK 25)=some (.row 63 35 (L++[q]).length (aA (L++[q]))) by
  obtain⟨⟨x,st'⟩,h1,h2,h3,h4⟩:=h
  obtain rfl:x=.own 25 (Ie.aK 25):=h2
  exact⟨st',h1,h3,h4⟩
 rw[Kt Tryz.prog Tryz.func142 rfl (by kernel_rfl) _ _ hx]
 simp only[ZG,seval,aHi,dW,bW,bM,e1,e2,sl,s25,s25',beI,rI _ _ _ _ hn];refine⟨_,Je (P:=Tryz.prog) (fn:=Tryz.f142) (r:=.tmp 6) (x:=.own 25 (Ie.aK 25)) (.inl rfl) rfl ?h1,rfl,⟨fun y h h1 h2=>?h2,fun y=>?h3⟩, ?h4⟩
 case h1=>rw[wU];simp only[bX,E8,seval,bM]
 case h2 =>
  have n25:(y=25/\h=Ie.aK 25)=False:=eq_false (by rintro⟨rfl,rfl⟩;omega)
  have nsc:(y=s/\h=c)=False:=eq_false h2
  simp only[E8,seval,bW,bM,n25,nsc,if_false]
 case h3 =>
  simp only[E8,seval,bW,bM];split<;>subst_vars<;>omega
 case h4=>simp only[E8,seval,bW,bM,s25,s25',false_and,if_false]<;>rfl
theorem aEC (q:Request) {g:Nat} (Ie:St) (e2:Ie.heap 55 g=some (.row 63 35 1 (bA q))) :
 ∃st',rK Tryz.prog 142 [.v (.slice none 0 0),.v (.int .i64 0),.own 55 g] Ie=some (.own 25 (Ie.aK 25),st')/\((∀x h,h<Ie.aK x->st'.heap x h=Ie.heap x h)/\∀x,Ie.aK x<=st'.aK x)/\st'.heap 25 (Ie.aK 25)=some (.row 63 35 [q].length (aA [q])):=by
 have e1:∀(sA:St) (lo:Operand),sA.ev lo=.v (.int .i64 0)->dA Tryz.prog sA 54 (.v (.slice none 0 0)) (some lo) none=some (.v (.slice none 0 0)):=fun sA lo he=>by
  simp only[dA,Mc,he,and_self,if_true]
 have hx:yD [.v (.slice none 0 0),.v (.int .i64 0),.own 55 g] Ie=none:=rfl
 suffices h:∃r:AV × St,rK Tryz.prog 142 [.v (.slice none 0 0),.v (.int .i64 0),.own 55 g] Ie=some r/\r.1=.own 25 (Ie.aK 25)/\((∀x h,h<Ie.aK x->r.2.heap x h=Ie.heap x h)/\∀x,Ie.aK x<=r.2.aK x)/\r.2.heap 25 (Ie.aK 25)=some (.row 63 35 [q].length (aA [q])) by
  obtain⟨⟨x,st'⟩,h1,h2,h3,h4⟩:=h
  obtain rfl:x=.own 25 (Ie.aK 25):=h2
  exact⟨st',h1,h3,h4⟩
 rw[Kt Tryz.prog Tryz.func142 rfl (by kernel_rfl) _ _ hx]
 simp only[ZG,seval,aHi,dW,bW,bM,e1,e2,beI];refine⟨_,Je (P:=Tryz.prog) (fn:=Tryz.f142) (r:=.tmp 6) (x:=.own 25 (Ie.aK 25)) (.inl rfl) rfl ?h1,rfl,⟨fun y h h1=>?h2,fun y=>?h3⟩, ?h4⟩
 case h1=>rw[wU];simp only[bX,E8,seval,bM]
 case h2 =>
  have n25:(y=25/\h=Ie.aK 25)=False:=eq_false (by rintro⟨rfl,rfl⟩;omega)
  simp only[E8,seval,bW,bM,n25,if_false]
 case h3 =>
  simp only[E8,seval,bW,bM];split<;>subst_vars<;>omega
 case h4=>simp only[E8,seval,bW,bM]<;>rfl
theorem aA7 (A D:List Request) (a:Request) (j:Nat) (h:A.length=j):gx bB (A++a :: D) (j:Int)=a:=by
 unfold gx;simp[<- h]
theorem aED (A D:List Request) (a x:Request) (j:Nat) (h:A.length=j):gx bB (A++a :: x :: D) ((j+1:Nat):Int)=x:=by
 have:=aA7 (A++[a]) D x (j+1) (by simp[h])
 simpa using this
theorem aA8 (A D:List Request) (a x:Request) (j:Nat) (h:A.length=j):((A++a :: x :: D).set (j+1) a).set j x=A++x :: a :: D:=by
 subst h;rw[List.set_append_right _ _ (by omega)]
 simp
theorem aA9 (L:List Request) (x:Request) (k:Nat) (h1:∀j:Nat,j<k->jA (gx bB L j) x) (h2:∀j:Nat,k<=j->j<L.length->jA x (gx bB L j)):∀m:Nat,k<=m->m<=L.length->wG m (L.take m++x :: L.drop m)=L.take k++x :: L.drop k
 | 0,hk,hm=>by
   have:k=0:=by omega
   subst this;rfl
 | j+1,hk,hm=>by
   have hj:j<L.length:=by omega
   have e1:L.take (j+1)++x :: L.drop (j+1)=L.take j++L[j] :: x :: L.drop (j+1):=by
    rw[List.take_succ_eq_append_getElem hj,List.append_assoc];rfl
   have lj:(L.take j).length=j:=by rw[List.length_take];omega
   have e2:gx bB L (j:Int)=L[j]:=RL hj
   have e3:L.take j++x :: L[j] :: L.drop (j+1)=L.take j++x :: L.drop j:=by rw[<- List.drop_eq_getElem_cons hj]
   rw[e1];unfold wG;rw[aA7 _ _ _ _ lj,aED _ _ _ _ _ lj];by_cases hkj:k<=j
   ·have:=h2 j hkj hj
    rw[e2] at this;rw[if_pos this,aA8 _ _ _ _ _ lj,e3];exact aA9 L x k h1 h2 j hkj (by omega)
   ·have hkj:k=j+1:=by omega
    have:=h1 j (by omega)
    rw[e2] at this;rw[if_neg (by unfold jA at *;omega),<- e1,hkj]
theorem aEE (L:List Request) (x:Request) (k:Nat) (hk:k<=L.length) (hs:L.Pairwise fun a b=>¬jA b a) (ht:∀y∈L,y.tagged.tag≠x.tagged.tag) (h1:∀j:Nat,j<k->jA (gx bB L j) x) (h2:k<L.length->¬jA (gx bB L k) x):wG L.length (L++[x])=L.take k++[x]++L.drop k:=by
 have e:=aA9 L x k h1 (fun j hj hl=>?_) L.length hk (Nat.le_refl _)
 ·rw[List.take_length,List.drop_length] at e;rw[e,List.append_assoc];rfl
 ·have a1:=h2 (by omega)
  rw[RL (by omega)] at a1
  rw[RL hl];have a2:=ht L[j] (List.getElem_mem _)
  have a3:j=k\/¬jA L[j] L[k]:=by
   by_cases e:j=k
   ·exact .inl e
   ·exact .inr (List.pairwise_iff_getElem.1 hs k j (by omega) hl (by omega))
  rcases a3 with rfl|a3
  ·unfold jA at *;omega
  ·unfold jA at *;omega
theorem c88 {t:State} {ns:List Node} (ht:t.store.tree=⟨.sl ns.length (cD ns)⟩) (hn:(ns.length:Int)<1000000) (x:Request):aC Tryz.prog 88 [.agg (bA x),.ip (aF t) 0]=some (.v (.bool (decide (aP ns x.block<0)))):=by
 rw[cL Tryz.func88 rfl aU4 rfl];refine iX ?_
 by_cases g:aP ns x.block<0
 ·simp only[Z8,seval,ht,k89 _ _ hn,g,decide_true];exact⟨_,bT rfl (by simp only[E8,seval]<;>rfl) (by first|exact .v _|simp only[dN]),rfl⟩
 ·simp only[Z8,seval,ht,k89 _ _ hn,g,decide_false];exact⟨_,bT rfl (by simp only[E8,seval]<;>rfl) (by first|exact .v _|simp only[dN]),rfl⟩
def NI (y:AV):Prop:=∀a o,y≠.ip a o
theorem NI.mem {y:AV} (h:eE y):NI y:=fun a o e=>by rw[e] at h;cases h
theorem aBa {st:St} {c y:AV} (h:cC st c=some y) (hy:NI y):pN st c=some y:=by
 by_cases hf:Flat c
 ·rw[cN hf] at h;rw[RM hf,h]
 unfold cC at h;rw[if_neg hf] at h;unfold pN;rw[if_neg hf];cases c with
 | own s g=>exact h
 | vw s g o n=>exact h
 | ptr s g o =>
   simp only at h
   split at h
   ·rename_i cs _;cases h2:bK (cs.map (pN st)) with
    | none=>rw[h2] at h;cases h
    | some ds=>rw[h2] at h;exact absurd (Option.some.inj h).symm (hy ds o)
   ·cases h
 | _=>first|exact h|cases h
theorem IU {st:St}:∀ {cs ys:List AV},Tb st cs=some ys->(∀y∈ys,NI y)->bK (cs.map (pN st))=some ys
 | [],ys,h,_=>by
   have:ys=[]:=by simpa [Tb,bK] using h.symm
   rw[this];rfl
 | c :: cs,ys,h,hy=>by
   unfold Tb at h;rw[List.map_cons] at h;cases h1:cC st c with
   | none=>rw[h1] at h;cases h
   | some y =>
     rw[h1] at h;simp only[bK] at h;cases h2:bK (cs.map (cC st)) with
     | none=>rw[h2] at h;cases h
     | some zs =>
       rw[h2] at h;have e:ys=y :: zs:=(Option.some.inj h).symm
       subst e;rw[List.map_cons,aBa h1 (hy y (by simp))]
       have ih:=IU (st:=st) (cs:=cs) (ys:=zs) h2 (fun z hz=>hy z (by simp[hz]))
       simp only[bK,ih,Option.map_some]
theorem aPh {α:Type} (c:List α->List AV) (o:Option (List α)):NI (ov c o):=by
 cases o<;>exact fun a o e=>by cases e
theorem aIL {a b:List AV} (h1:∀y∈a,NI y) (h2:∀y∈b,NI y):∀y∈a++b,NI y:=fun y hy=>(List.mem_append.1 hy).elim (h1 y) (h2 y)
theorem KY {x:AV} (h:NI x):∀y∈[x],NI y:=fun y hy=>by rw[List.mem_singleton.1 hy];exact h
theorem Oh {l:List AV} (h:∀y∈l,eE y):∀y∈l,NI y:=fun y hy=>.mem (h y hy)
theorem aBb {t:State} {v:SV} (hs:SD t.store v) {q r:AV} (hq:NI q) (hr:NI r):∀y∈aF (Mu t t.store q r),NI y:=by
 simp only[Mu,aF,aB,bU,eP,jL,mI,hs.jQ,hs.dO,hs.gW,hs.early,hs.bV,hs.tree,hs.tables];repeat' (first
  | exact Oh (BK _)|exact Oh (N9 _)|exact Oh (Ef _)|exact Oh (O0 _)|exact Oh (RN _)|exact Oh (FF _)|exact Oh (KZ _)
  | exact KY (aPh _ _)|exact KY hq|exact KY hr|exact KY (fun a o e=>by cases e)|refine aIL ?_ ?_)
def drX (t:State) (v:SV) (Xq Xr:AV):State:=Mu t (WJ t.store v 6 0) Xq Xr
def KD (t:State) (v:SV) (Xq Xr:AV) (st:St):Prop:=st.heap 3 0=some (.cells (aF (drX t v Xq Xr)))/\(∀j,j<nS v->st.heap 6 j=(Gl v)[j]?)/\(∃q,cC st Xq=some q/\NI q/\Flat q)/\∃r,cC st Xr=some r/\NI r/\Flat r
theorem KD.ip {t:State} {v:SV} {Q R:Option (List Request)} (hT:TD t v Q R) {Xq Xr:AV} {st:St} (h:KD t v Xq Xr st):∃T:State,T.store=t.store/\Flat (.agg (aF T))/\bK ((aF (drX t v Xq Xr)).map (pN st))=some (aF T):=by
 obtain⟨h1,h2,⟨q,hq,nq,fq⟩,r,hr,nr,fr⟩:=h
 have hs:=hT.sd
 have e:=YR (t:=t) (v:=v) hs (d:=6) (c:=0) (q:=Xq) (r:=Xr) (fun j hj=>by rw[Nat.zero_add];exact h2 j hj) hq hr
 rw[bQ] at e;have e1:Tb st (aF (drX t v Xq Xr))=some (aF (Mu t t.store q r)):=by
  cases h3:Tb st (aF (drX t v Xq Xr)) with
  | none=>rw[show Tb st (aF (Mu t (WJ t.store v 6 0) Xq Xr))=none from h3] at e;cases e
  | some z =>
    rw[show Tb st (aF (Mu t (WJ t.store v 6 0) Xq Xr))=some z from h3] at e;injection e with e
    injection e with e
    rw[e]
 have lK:=hT.fl
 exact⟨Mu t t.store q r,rfl,(pP _).2 ⟨lK.1,lK.2.1,lK.2.2.1,lK.2.2.2.1,lK.2.2.2.2.1,lK.2.2.2.2.2.1,lK.2.2.2.2.2.2.1,fq,fr⟩,IU e1 (aBb hs nq nr)⟩
theorem KD.call {t:State} {v:SV} {Q R:Option (List Request)} (hT:TD t v Q R) {Xq Xr:AV} {st:St} (h:KD t v Xq Xr st) (x:Request) (d:Option Nat):aN (aC Tryz.prog) 88 ([.agg (bA x)]++[.ptr 3 0 0]) st d=some { dst:=d,val:=.v (.bool (decide (aP v.ns x.block<0)))}:=by
 obtain⟨T,eT,fT,e2⟩:=h.ip hT
 have e3:eW st (.ptr 3 0 0)=some (.ip (aF T) 0):=by
  unfold eW;rw[if_neg (yU 3 0 0)];show cC st (.ptr 3 0 0)=_
  unfold cC;rw[if_neg (yU 3 0 0)];simp only[h.1,e2,Option.map_some]
 rw[kJ,List.singleton_append,List.map_cons,List.map_cons,List.map_nil,dQ (.agg _ (fN x)),e3,bJ,bJ,gB];exact Zh (c88 (t:=T) (ns:=v.ns) (by rw[eT];exact hT.sd.tree) hT.sd.nn x)
theorem KD.idx {t:State} {v:SV} {Q R:Option (List Request)} (hT:TD t v Q R) {Xq Xr:AV} {st:St} (h:KD t v Xq Xr st) (o:Option (List Request)) (hn:((ol o).length:Int)<1000000) (Y:AV) (hY:eW st Y=some (ov aA o)) (d:Option Nat):aN (aC Tryz.prog) 77 [Y,.zC 88 [.ptr 3 0 0]] st d=some { dst:=d,val:=.v (.int .i64 (Du (fun k=>(fun x:Request=>decide (aP v.ns x.block<0)) (gx bB (ol o) k)=true) (ol o).length))}:=by
 obtain⟨T,eT,fT,e2⟩:=h.ip hT
 have fI:Flat (.ip (aF T) 0):=.ip _ _ (by cases fT with|agg _ h=>exact h)
 rw[kJ,List.map_cons,List.map_cons,List.map_nil,hY,HM,h.1,show Zq st (some (.cells (aF (drX t v Xq Xr)))) 0=some (.ip (aF T) 0) from by unfold Zq;simp only[e2,Option.map_some],Option.map_some,bJ,bJ,gB]
 exact Zs (aU0 o hn 88 [.ip (aF T) 0] (fun x=>decide (aP v.ns x.block<0)) (fun x _ st d=>bL (bH (.agg _ (fN x)) fI) (c88 (t:=T) (ns:=v.ns) (by rw[eT];exact hT.sd.tree) hT.sd.nn x) (.v _)))
def Ref (X:AV) (g n:Nat):Prop:=X=.v (.slice none 0 0)\/X=.own 6 g\/∃k,k<=n/\X=.vw 6 g 0 k
theorem Gm {X:AV} {g n:Nat} (h:Ref X g n) {st sA:St} (e:sA.heap 6 g=st.heap 6 g):cC sA X=cC st X:=by
 rcases h with rfl|rfl|⟨k,_,rfl⟩
 ·rw[cN (.v _),cN (.v _)]
 ·rw[bG,bG,e]
 ·unfold cC;have hf:¬Flat (.vw 6 g 0 k):=by intro h;cases h
  rw[if_neg hf,if_neg hf];simp only[e]
theorem IV {X:AV} {g n:Nat} (h:Ref X g n) {st:St} {M:List Request} (hn:n<=M.length) (e:st.heap 6 g=some (.row 63 35 M.length (aA M))):∃q,cC st X=some q/\NI q/\Flat q:=by
 rcases h with rfl|rfl|⟨k,hk,rfl⟩
 ·exact⟨_,cN (.v _),(fun a o e=>by cases e),.v _⟩
 ·exact⟨_,Go.Ab.kA e (fF M),(fun a o e=>by cases e),.sl _ _ (fF M)⟩
 ·have hf:¬Flat (.vw 6 g 0 k):=by intro h;cases h
  have hc:(∀c∈aA M,Flat c)/\0+k * 35<=(aA M).length:=⟨fF M,by rw[Mv];omega⟩
  refine⟨_,by unfold cC;rw[if_neg hf];simp only[e];rw[if_pos hc],(fun a o e=>by cases e),.sl _ _ fun c h=>fF M c (List.mem_of_mem_drop (List.mem_of_mem_take h))⟩
theorem KD.ok {t:State} {v:SV} {Xq Xr:AV} {L:List Request} {g gq gr nq nr:Nat} (hq:Ref Xq gq nq) (hr:Ref Xr gr nr) (hg:nS v<=g) (hc:(g=gq->nq<=L.length)/\(g=gr->nr<=L.length)):KOk (KD t v Xq Xr) 6 g 63 35 (fun n C=>∃M:List Request,n=M.length/\M.length=L.length/\C=aA M):=by
 have n36:((3:Nat)=6)=False:=eq_false (by decide)
 have n37:((3:Nat)=7)=False:=eq_false (by decide)
 have n67:((6:Nat)=7)=False:=eq_false (by decide)
 have aEF:∀st sA:St,sA.heap 3 0=st.heap 3 0->(∀j,sA.heap 6 j=st.heap 6 j)->KD t v Xq Xr sA=KD t v Xq Xr st:=fun st sA h3 h6=>by
  unfold KD;simp only[h3,h6,Gm hq (h6 gq),Gm hr (h6 gr)]
 refine⟨fun st d y=>aEF _ _ (by rw[xM]) (fun j=>by rw[xM]),fun st x=>aEF _ _ (by simp only[rO,n37,false_and,if_false]) (fun j=>by simp only[rO,n67,false_and,if_false]),fun st h x=>aEF _ _ (by simp only[mE,n37,false_and,if_false]) (fun j=>by simp only[mE,n67,false_and,if_false]),fun a st=>aEF _ _ (by rw[bW]) (fun j=>by rw[bW]), ?_⟩
 rintro st n C ⟨M,rfl,hM,rfl⟩ ⟨h1,h2,h3,h4⟩
 have hh:(St.gT st 6 g (some (.row 63 35 M.length (aA M)))).heap 6 g=some (.row 63 35 M.length (aA M)):=by simp only[mE,and_self,if_true]
 have ho:∀j,j≠g->(St.gT st 6 g (some (.row 63 35 M.length (aA M)))).heap 6 j=st.heap 6 j:=fun j hj=>by
  have hj':(j=g)=False:=eq_false hj
  simp only[mE,hj',and_false,if_false]
 refine⟨by simp only[mE,n36,false_and,if_false];exact h1,fun j hj=>by rw[ho j (by omega)];exact h2 j hj, ?_, ?_⟩
 ·by_cases e:g=gq
  ·subst e;exact IV hq (by rw[hM];exact hc.1 rfl) hh
  ·rw[Gm hq (ho gq (fun h=>e h.symm))];exact h3
 ·by_cases e:g=gr
  ·subst e;exact IV hr (by rw[hM];exact hc.2 rfl) hh
  ·rw[Gm hr (ho gr (fun h=>e h.symm))];exact h4
end Go.Ab.Tryz
namespace Go.Ab.Tryz
open Classical Go.Proofs Go.Ab
end Go.Ab.Tryz
namespace Go.Ab.Tryz
open Classical Go.Proofs Go.Ab
theorem aBc:aE 0 3 (some 2)=[]/\aE 1 4 (some 8)=[]/\aE 2 5 (some 10)=[]/\aE 3 2 (some 15)=[]/\aE 4 9 (some 16)=[]/\aE 5 2 (some 25)=[]/\aE 6 2 (some 26)=[]/\aE 7 5 (some 27)=[]/\aE 8 14 (some 31)=[]/\aE 9 9 (some 45)=[]/\aE 10 8 (some 51)=[]/\aE 11 2 (some 58)=[]:=⟨rfl,rfl,rfl,rfl,rfl,rfl,rfl,rfl,rfl,rfl,rfl,rfl⟩
def CpR (v:SV) (Q R:Option (List Request)) (st:St):Prop:=(∀j,j<nS v->st.heap 9 j=(Gl v)[j]?)/\(∀l,Q=some l->st.heap 9 (nS v)=some (.row 63 35 l.length (aA l)))/\∀l,R=some l->st.heap 9 (nR v Q)=some (.row 63 35 l.length (aA l))
theorem YT {t:State} {v:SV} {Q R:Option (List Request)} (h:TD t v Q R) {st:St} (hK:CpR v Q R st) (o:Bool):eW st (.agg (aF { cpT t v Q R 9 0 with overflow:=o }))=some (.agg (aF { t with overflow:=o })):=by
 have e:=YR (t:={ t with overflow:=o }) (v:=v) h.sd (d:=9) (c:=0) (q:=rv 9 (0+nS v) Q) (r:=rv 9 (0+nR v Q) R) (fun j hj=>by rw[Nat.zero_add];exact hK.1 j hj) (pV (fun l hl=>by rw[Nat.zero_add];exact hK.2.1 l hl) fun l _=>fF l) (pV (fun l hl=>by rw[Nat.zero_add];exact hK.2.2 l hl) fun l _=>fF l)
 have e2:Mu { t with overflow:=o } ({ t with overflow:=o }:State).store (ov aA Q) (ov aA R)={ t with overflow:=o }:=by unfold Mu;rw[<- h.ret,<- h.Cf]
 rw[e2] at e;exact e
theorem aIM {t:State} {v:SV} {Q R:Option (List Request)} (h:TD t v Q R) {st:St} (h1:∀j,j<nS v->st.heap 9 j=(Gl v)[j]?) (h2:∀l,Q=some l->st.heap 9 (nS v)=some (.row 63 35 l.length (aA l))) {X:AV} {L:List Request} (hX:cC st X=some (ov aA (some L))):eW st (.agg (aF { cpT t v Q R 9 0 with kU:=X }))=some (.agg (aF { t with kU:=ov aA (some L)})):=by
 have e:=YR (t:=t) (v:=v) h.sd (d:=9) (c:=0) (q:=rv 9 (0+nS v) Q) (r:=X) (fun j hj=>by rw[Nat.zero_add];exact h1 j hj) (pV (fun l hl=>by rw[Nat.zero_add];exact h2 l hl) fun l _=>fF l) hX
 have e2:Mu t t.store (ov aA Q) (ov aA (some L))={ t with kU:=ov aA (some L)}:=by unfold Mu;rw[<- h.Cf]
 rw[e2] at e;exact e
theorem aPj {call:Nat->List AV->Option AV} {inl:Nat->List AV->St->Option (AV × St)} {ops:Array Oper} {st:St} {T:Nat} {pos:String} {eK:Array Edge} (x:Array Operand) (y:Array Nat) :
 gG Tryz.prog true call inl ops ⟨some 56,.call ⟨.value (.func 142),x,y⟩,T,pos,eK,none⟩ st=cA (inl 142 (x.toList.map st.ev) st) fun r=>some ((st.back r.2).put (some 56) r.1):=KQ 142 x y (Qt rfl)
theorem aIN (v:SV) (Q R:Option (List Request)) (x:Request) {k:Nat} (hk:k<=(ol R).length) (hn:((ol R).length:Int)<900000):∃(a g:Nat),(a≠4/\a≠5)/\∀st:St,((∀l,R=some l->st.heap 9 (nR v Q)=some (.row 63 35 l.length (aA l)))/\st.heap 55 0=some (.row 63 35 1 (bA x))/\st.aK 25=0/\st.aK 9=(Tx v Q R).length) ->
 ∃st',rK Tryz.prog 142 [rv 9 (nR v Q) R,.v (.int .i64 k),.own 55 0] st=some (.own a g,st')/\aEz 9 (nR v Q) st st'/\st'.heap a g=some (.row 63 35 ((ol R).take k++[x]++(ol R).drop k).length (aA ((ol R).take k++[x]++(ol R).drop k))):=by
 cases R with
 | none =>
   refine⟨25,0,⟨by decide,by decide⟩,fun st ⟨_,h2,h3,_⟩=>?_⟩
   obtain rfl:k=0:=Nat.le_zero.1 hk
   obtain⟨st',e1,⟨e2,e3⟩,e4⟩:=aEC x (g:=0) st h2
   rw[h3] at e1 e4;exact⟨st',e1,⟨fun y h hy _=>e2 y h hy,e3⟩,e4⟩
 | some l =>
   have hk:k<=l.length:=hk
   have hn:(l.length:Int)<900000:=hn
   have ne:¬(55=9/\0=nR v Q):=fun h=>by omega
   rcases Nat.lt_or_ge k l.length with g|g
   ·refine⟨9,(Tx v Q (some l)).length,⟨by decide,by decide⟩,fun st ⟨h1,h2,_,h4⟩=>?_⟩
    have e:=aEA l x k g (by omega) ne st (h1 l rfl) h2
    rw[h4] at e;refine⟨_,e,⟨fun y z hy hz=>?_,fun y=>?_⟩, ?_⟩
    ·have n1:(y=9/\z=st.aK 9)=False:=eq_false (by rintro⟨rfl,rfl⟩;omega)
     simp only[rO,mE,uS,n1,eq_false hz,if_false]
    ·simp only[Gn,uS];split<;>subst_vars<;>omega
    ·have n2:(((ol (some l)).take k++[x]++(ol (some l)).drop k).length)=l.length+1:=by rw[Qx,List.length_append,List.length_append,List.length_take,List.length_drop,List.length_singleton];omega
     rw[n2,Qx];simp only[rO,uS,h4,and_self,if_true]
   ·obtain rfl:k=l.length:=by omega
    refine⟨25,0,⟨by decide,by decide⟩,fun st ⟨h1,h2,h3,_⟩=>?_⟩
    obtain⟨st',e1,e2,e4⟩:=aEB l x (by omega) (s:=9) (g:=0) (by decide) st (h1 l rfl) h2
    rw[h3] at e1 e4;rw[Qx,List.take_length,List.drop_length,List.append_nil];exact⟨st',e1,e2,e4⟩
theorem c71 {t:State} {v:SV} {Q R:Option (List Request)} (h:TD t v Q R) (gI:NEv v) (hB:v.B≠some []) (hL:v.L≠some []) (ht:0<v.ns.length) (hQ:Q≠some []) (hR:R≠some []) (hn:((ol R).length:Int)<900000) (hs:(ol R).Pairwise fun a b=>¬jA b a) (r:Request) (hr:0<=r.tries/\r.tries<=60)
 (hb:0<=t.store.cFg.kF.kZ/\t.store.cFg.kF.kZ<18446744073709551616) (aIO:∀y∈ol R,y.tagged.tag≠r.tagged.tag):aC Tryz.prog 71 [.agg (aF t),.agg (bA r)]=some (.agg (aF (Tt t v.ns (ol R) r))):=by
 have aIP:=k80 h gI hB hL ht hQ hR
 obtain⟨Z,hZ⟩:∃Z,cpT t v Q R 9 0=Z:=⟨_,rfl⟩
 have z1:Z.kU=rv 9 (nR v Q) R:=by rw[<- hZ];show rv 9 (0+nR v Q) R=_;rw[Nat.zero_add]
 have z2:Z.store.cFg.kF=t.store.cFg.kF:=by rw[<- hZ];rfl
 have z3:Z.store.now=t.store.now:=by rw[<- hZ];rfl
 obtain⟨K,hK⟩:∃K:St->Prop,K=CpR v Q R:=⟨_,rfl⟩
 have Kp:∀sA d y,K (St.put sA d y)=K sA:=fun sA d y=>by rw[hK];cases d<;>rfl
 have n9:∀s,s≠9->((9:Nat)=s)=False:=fun s hs=>eq_false (fun e=>hs e.symm)
 have Kn:∀sA e s,s≠9->K (St.new sA s e)=K sA:=fun sA e s hs=>by rw[hK];simp only[CpR,rO,n9 s hs,false_and,if_false]
 have Ks:∀sA s c e,s≠9->K (St.gT sA s c e)=K sA:=fun sA s c e hs=>by rw[hK];simp only[CpR,mE,n9 s hs,false_and,if_false]
 have Kw:∀sA:St,sA.aK 9=0->K (St.news sA 9 (Tx v Q R)):=fun sA hc=>by
  rw[hK];refine⟨fun j hj=>?_,fun l hl=>?_,fun l hl=>?_⟩
  ·have lj:j<(Tx v Q R).length:=by unfold Tx;rw[List.length_append];unfold nS at hj;omega
   show (if 9=9/\sA.aK 9<=j/\j-sA.aK 9<(Tx v Q R).length then (Tx v Q R)[j-sA.aK 9]? else _)=_
   rw[hc,if_pos ⟨rfl,Nat.zero_le _,by omega⟩,Nat.sub_zero,aUU v Q R j hj]
  ·have e:=aPc v Q R l hl
   have lj:=(List.getElem?_eq_some_iff.1 e).1
   show (if 9=9/\sA.aK 9<=nS v/\nS v-sA.aK 9<(Tx v Q R).length then (Tx v Q R)[nS v-sA.aK 9]? else _)=_
   rw[hc,if_pos ⟨rfl,Nat.zero_le _,by omega⟩,Nat.sub_zero,e]
  ·have e:=aUV v Q R l hl
   have lj:=(List.getElem?_eq_some_iff.1 e).1
   show (if 9=9/\sA.aK 9<=nR v Q/\nR v Q-sA.aK 9<(Tx v Q R).length then (Tx v Q R)[nR v Q-sA.aK 9]? else _)=_
   rw[hc,if_pos ⟨rfl,Nat.zero_le _,by omega⟩,Nat.sub_zero,e]
 have aBd:∀(sA:St) (d:Option Nat),K sA->aN (aC Tryz.prog) 139 [.agg (aF Z),.agg (aX r.block)] sA d=some { dst:=d,val:=.v (.bool (decide (uP v.ns r.block)))}:=fun sA d hk=>by
  rw[hK] at hk;have he:eW sA (.agg (aF Z))=some (.agg (aF t)):=by rw[<- hZ];exact YT h hk t.overflow
  rw[kJ,List.map_cons,List.map_cons,List.map_nil,he,dQ (.agg _ (dH r.block)),bJ,bJ,gB];exact Zh (aUZ h r.block)
 have hlen:∀sA,K sA->aQ sA (rv 9 (nR v Q) R)=some ((ol R).length,aA (ol R)):=fun sA hk=>by
  rw[hK] at hk;cases R with
  | none=>rfl
  | some l=>show aQ sA (.own 9 (nR v Q))=_;simp only[aQ,hk.2.2 l rfl];rfl
 rw[cG Tryz.func71 rfl aU5 (by kernel_rfl) rfl]
 refine iX ?_
 by_cases g1:uP v.ns r.block
 case neg =>
  simp only[ZG,seval,aBc,aIP,BJ,NW,hZ,z1,z2,z3,Kp,Kn,Ks,Kw,aBd,g1,decide_false];refine⟨.agg (aF t),dY rfl (by simp only[E8,seval]<;>rfl) (cs:=aF Z) (by simp only[Z8,seval,NW]<;>rfl) ?ex,by rw[Tt,if_pos g1]⟩
  rw[<- hZ];refine YT h (hK ▸ (?_:K _)) t.overflow
  simp only[Kp,Kn _ _ 5 (by decide),Ks _ 5 _ _ (by decide),Ks _ 4 _ _ (by decide)]
  exact Kw _ (by simp only[E8,seval]<;>rfl)
 by_cases g2:t.store.cFg.kF.lM<=((ol R).length:Int)
 ·simp only[ZG,seval,aBc,aIP,BJ,NW,hZ,z1,z2,z3,Kp,Kn,Ks,Kw,aBd,g1,decide_true,hlen,g2];refine⟨.agg (aF { t with overflow:=true }),dY rfl (by simp only[E8,seval]<;>rfl) (cs:=aF { Z with overflow:=true }) (by simp only[Z8,seval,NW,z1]<;>rfl) ?ex2,by rw[Tt,if_neg (fun hh=>hh g1),if_pos g2]⟩
  rw[<- hZ];refine YT h (hK ▸ (?_:K _)) true
  simp only[Kp,Kn _ _ 5 (by decide),Ks _ 5 _ _ (by decide),Ks _ 4 _ _ (by decide)]
  exact Kw _ (by simp only[E8,seval]<;>rfl)
 have hw0:IntKind.i64.wrap (r.tries+1)=r.tries+1:=by rw[pM _ (by omega) (by omega)]
 have k138':=kx (aT0 (IntKind.i64.wrap (r.tries+1)) t.store.cFg.kF.kZ (by omega) hb) (bH (.v _) (.v _)) (.v _)
 obtain⟨x,hx⟩:∃x,FE t r=x:=⟨_,rfl⟩
 have Ic:({ tagged:=r.tagged,block:=r.block,tries:=IntKind.i64.wrap (r.tries+1),due:=IntKind.u64.wrap (t.store.now+Xd (IntKind.i64.wrap (r.tries+1)) t.store.cFg.kF.kZ)}:Request)=x:=hx
 have hv:Tt t v.ns (ol R) r={ t with kU:=ov aA (some (wG (ol R).length (ol R++[x])))}:=by rw[<- hx];exact (if_neg (fun hh=>hh g1)).trans (if_neg g2)
 rw[hv];have hk140:∃(k:Nat) (b:Bool),aC Tryz.prog 140 [ov aA R,.agg (bA x),.v (.func (.func 141) #[] #[])]=some (.dX [.v (.int .i64 k),.v (.bool b)])/\k<=(ol R).length/\wG (ol R).length (ol R++[x])=(ol R).take k++[x]++(ol R).drop k:=by
  cases R with
  | none=>exact⟨0,false,aPf x,Nat.le_refl _,rfl⟩
  | some l =>
    obtain⟨_,h1,k,b,rfl,h2,h3,h4⟩:=aU2 l (by show (l.length:Int)<1000000;have:((l.length:Nat):Int)<900000:=hn;omega) x hs
    exact⟨k,b,h1,h2,aEE l x k h2 hs (fun y hy=>by rw[<- hx];exact aIO y hy) h3 h4⟩
 obtain⟨k,b,h140,hk,N3⟩:=hk140
 rw[N3];have k140':∀(sA:St) (d:Option Nat),K sA->aN (aC Tryz.prog) 140 [rv 9 (nR v Q) R,.agg (bA x),.v (.func (.func 141) #[] #[])] sA d=some { dst:=d,val:=.dX [.v (.int .i64 k),.v (.bool b)]}:=fun sA d hk=>by
  rw[hK] at hk;have he:eW sA (rv 9 (nR v Q) R)=some (ov aA R):=by
   cases R with
   | none=>exact Iy _ _
   | some l=>exact RJ (hk.2.2 l rfl) (fF l)
  rw[kJ,List.map_cons,List.map_cons,List.map_cons,List.map_nil,he,dQ (.agg _ (fN x)),Iy,bJ,bJ,bJ,gB];exact XB h140 (fun y hy=>by rcases List.mem_cons.1 hy with rfl|hy;exact eE.v _;rcases List.mem_cons.1 hy with rfl|hy;exact eE.v _;cases hy) (.dX _ (bH (.v _) (.v _)))
 obtain⟨xa,xg,⟨x4,x5⟩,N6⟩:=aIN v Q R x hk hn
 simp only[ZG,seval,aBc,aIP,BJ,NW,hZ,z1,z2,z3,Kp,Kn,Ks,Kw,aBd,g1,decide_true,hlen];refine Qk (fun a=>a.1=.normal/\(a.2.env 3=.ptr 3 0 0/\a.2.heap 3 0=some (.cells (bA r))/\a.2.env 4=.ptr 4 0 0/\a.2.heap 4 0=some (.cells (aF lD))/\a.2.env 5=.ptr 5 0 0/\a.2.heap 5 0=some (.cells (aF Z))/\a.2.aK 4=1/\a.2.aK 5=1/\a.2.aK 9=(Tx v Q R).length/\a.2.aK 25=0/\a.2.aK 55=0)/\K a.2) ?m1 ?r1
 case m1 =>
  rw[if_neg (by simpa using g2)]
  refine⟨_,rfl,rfl,by and_intros<;>(simp only[E8,seval,NW]<;>rfl), ?_⟩
  simp only[Kp,Kn _ _ 5 (by decide),Ks _ 5 _ _ (by decide),Ks _ 4 _ _ (by decide)]
  exact Kw _ (by simp only[E8,seval]<;>rfl)
 case r1 =>
  rintro⟨_,st⟩ ⟨rfl,hI,YU⟩
  dsimp only at hI YU
  simp only[ZG,seval,aBc,hI,z1,z2,z3,NW,k138',Ic,YU,Kp,Kn,Ks,k140',eC,YO,aPj];refine aA5 (.own xa xg) (fun st=>(∀l,R=some l->st.heap 9 (nR v Q)=some (.row 63 35 l.length (aA l)))/\st.heap 55 0=some (.row 63 35 1 (bA x))/\st.aK 25=0/\st.aK 9=(Tx v Q R).length) (fun st st'=>aEz 9 (nR v Q) st st'/\st'.heap xa xg=some (.row 63 35 ((ol R).take k++[x]++(ol R).drop k).length (aA ((ol R).take k++[x]++(ol R).drop k)))) N6 ?pre ?rest
  case pre =>
   rw[hK] at YU
   exact⟨fun l hl=>by simp only[E8,seval,NW,hI];exact YU.2.2 l hl,by simp only[E8,seval,NW,hI]<;>rfl,by simp only[E8,seval,NW,hI],by simp only[E8,seval,NW,hI]⟩
  case rest =>
   rintro st' ⟨hF,hX⟩
   rw[hK] at YU
   have e4:st'.heap 4 0=some (.cells (aF lD)):=(hF.1 4 0 (by simp only[E8,seval,NW,hI]<;>omega) (by omega)).trans (by simp only[E8,seval,NW,hI]<;>rfl)
   have e5:st'.heap 5 0=some (.cells (aF Z)):=(hF.1 5 0 (by simp only[E8,seval,NW,hI]<;>omega) (by omega)).trans (by simp only[E8,seval,NW,hI]<;>rfl)
   have lS:nS v<=nR v Q:=by unfold nR;omega
   have er:∀j,j<nS v->st'.heap 9 j=(Gl v)[j]?:=fun j hj=>(hF.1 9 j (by simp only[E8,seval,NW,hI];unfold Tx;rw[List.length_append];unfold nS at hj;omega) (by omega)).trans (by simp only[E8,seval,NW,hI];exact YU.1 j hj)
   have eq:∀l,Q=some l->st'.heap 9 (nS v)=some (.row 63 35 l.length (aA l)):=fun l hl=>(hF.1 9 (nS v) (by simp only[E8,seval,NW,hI];exact (List.getElem?_eq_some_iff.1 (aPc v Q R l hl)).1) (by rintro⟨_,h⟩;unfold nR at h;rw[hl,wX] at h;simp at h)).trans (by simp only[E8,seval,NW,hI];exact YU.2.1 l hl)
   simp only[ZG,seval,aBc,hI,NW,dW,bW,bM,e4,e5];refine⟨_,dY rfl (by simp only[E8,seval,hI,dW]<;>rfl) (cs:=aF { Z with kU:=.own xa xg }) (by simp only[Z8,seval,hI,dW,bW,bM,e4]<;>rfl) ?ex3,rfl⟩
   rw[<- hZ];refine aIM h (fun j hj=>by simp only[E8,seval,bW,bM];exact er j hj) (fun l hl=>by simp only[E8,seval,bW,bM];exact eq l hl) (kA ?_)
   simp only[E8,seval,bW,bM];rw[if_neg (fun h=>x4 h.1),if_neg (fun h=>x5 h.1)]
   exact hX
end Go.Ab.Tryz
section
namespace Go.Ab
open Classical
structure QS where
 e:List (Nat × AV)
 h:List (Nat × Nat × Option jC)
 c:List (Nat × Nat)
def qE:List (Nat × AV)->Nat->AV
 | [],_=>.v undef
 | (k,x) :: r,t=>bif Nat.beq t k then x else qE r t
def qH:List (Nat × Nat × Option jC)->Nat->Nat->Option jC
 | [],_,_=>none
 | (a,b,x) :: r,s,g=>bif Nat.beq s a && Nat.beq g b then x else qH r s g
def qC:List (Nat × Nat)->Nat->Nat
 | [],_=>0
 | (k,n) :: r,t=>bif Nat.beq t k then n else qC r t
def QS.abs (q:QS):St:=⟨qE q.e,qH q.h,qC q.c⟩
def sE (d:Nat) (x:AV):List (Nat × AV)->List (Nat × AV)
 | []=>[(d,x)]
 | (k,y) :: r=>bif Nat.beq d k then (k,x) :: r else (k,y) :: sE d x r
def sH (a b:Nat) (x:Option jC):List (Nat × Nat × Option jC)->List (Nat × Nat × Option jC)
 | []=>[(a,b,x)]
 | (s,g,y) :: r=>bif Nat.beq a s && Nat.beq b g then (s,g,x) :: r else (s,g,y) :: sH a b x r
def sC (d n:Nat):List (Nat × Nat)->List (Nat × Nat)
 | []=>[(d,n)]
 | (k,y) :: r=>bif Nat.beq d k then (k,n) :: r else (k,y) :: sC d n r
theorem yE (a b:Nat):Nat.beq a b=decide (a=b):=by
 by_cases h:a=b
 ·subst h;simp
 ·rw[decide_eq_false h];cases e:Nat.beq a b with
  | false=>rfl
  | true=>exact absurd (Nat.eq_of_beq_eq_true e) h
theorem aPk (d:Nat) (x:AV) (t:Nat):∀l,qE (sE d x l) t=if t=d then x else qE l t
 | []=>by simp[sE,qE,yE,Bool.cond_decide]
 | (k,y) :: r=>by
   have ih:=aPk d x t r
   by_cases h1:d=k<;>by_cases h2:t=k<;>simp_all [sE,qE,yE,Bool.cond_decide]
   ·intro h;exact absurd h.symm h1
theorem aPl (d n:Nat) (t:Nat):∀l,qC (sC d n l) t=if t=d then n else qC l t
 | []=>by simp[sC,qC,yE,Bool.cond_decide]
 | (k,y) :: r=>by
   have ih:=aPl d n t r
   by_cases h1:d=k<;>by_cases h2:t=k<;>simp_all [sC,qC,yE,Bool.cond_decide]
   ·intro h;exact absurd h.symm h1
theorem aIQ (a b:Nat) (x:Option jC) (s g:Nat):∀l,qH (sH a b x l) s g=if s=a/\g=b then x else qH l s g
 | []=>by simp[sH,qH,yE,Bool.cond_decide,<- Bool.decide_and]
 | (s',g',y) :: r=>by
   have ih:=aIQ a b x s g r
   by_cases h1:a=s'/\b=g'
   ·obtain⟨rfl,rfl⟩:=h1
    simp[sH,qH,yE,Bool.cond_decide,<- Bool.decide_and]
    by_cases h2:s=a/\g=b<;>simp[h2]
   ·have e1:(Nat.beq a s' && Nat.beq b g')=false:=by simp[yE];intro h;exact fun h'=>h1 ⟨h,h'⟩
    simp only[sH,e1,cond_false,qH,ih];by_cases h2:s=s'/\g=g'
    ·obtain⟨rfl,rfl⟩:=h2
     have:¬(s=a/\g=b):=fun h=>h1 ⟨h.1.symm,h.2.symm⟩
     simp[this,yE]
    ·have e2:(Nat.beq s s' && Nat.beq g g')=false:=by simp[yE];intro h;exact fun h'=>h2 ⟨h,h'⟩
     simp only[e2,cond_false]
def QS.put (q:QS) (d:Option Nat) (x:AV):QS :=
 match d with
 | none=>q
 | some d=>{ q with e:=sE d x q.e }
theorem Ys (q:QS) (d:Option Nat) (x:AV):(q.put d x).abs=q.abs.put d x:=by
 cases d with
 | none=>rfl
 | some d =>
   unfold QS.put QS.abs St.put;simp only
   congr 1
   funext t
   exact aPk d x t q.e
def QS.gT (q:QS) (s g:Nat) (e:Option jC):QS:={ q with h:=sH s g e q.h }
theorem RO (q:QS) (s g:Nat) (e:Option jC):(q.gT s g e).abs=q.abs.gT s g e:=by
 unfold QS.gT QS.abs St.gT;simp only
 congr 1
 funext s' g'
 exact aIQ s g e s' g' q.h
def aBe (d:Nat):Nat->List jC->List (Nat × Nat × Option jC)->List (Nat × Nat × Option jC)
 | _,[],h=>h
 | c,e :: r,h=>sH d c (some e) (aBe d (c+1) r h)
def QS.news (q:QS) (d:Nat) (es:List jC):QS :=
 { q with h:=aBe d (qC q.c d) es q.h,c:=sC d (qC q.c d+es.length) q.c }
theorem F0 (d:Nat) (s g:Nat) (h:List (Nat × Nat × Option jC)):∀(es:List jC) (c:Nat),qH (aBe d c es h) s g=if s=d/\c<=g/\g-c<es.length then es[g-c]? else qH h s g
 | [],c=>by simp[aBe]
 | e :: r,c=>by
   rw[aBe,aIQ,F0 d s g h r (c+1)];by_cases h1:s=d
   ·subst h1;by_cases h2:g=c
    ·subst h2;simp
    ·by_cases h3:c<=g
     ·have h4:c+1<=g:=by omega
      have h5:g-c=(g-(c+1))+1:=by omega
      simp only[true_and,h2,if_false,h3,h4,h5,List.length_cons,List.getElem?_cons_succ,Nat.add_lt_add_iff_right]
     ·have h4:¬c+1<=g:=by omega
      simp[h2,h3,h4]
   ·simp[h1]
theorem RP (q:QS) (d:Nat) (es:List jC):(q.news d es).abs=q.abs.news d es:=by
 unfold QS.news QS.abs St.news;simp only
 congr 1
 ·funext s' g'
  exact F0 d s' g' q.h es (qC q.c d)
 ·funext s
  exact aPl d _ s q.c
def QS.app (e:mA) (q:QS):QS :=
 let s1:=match e.dG with
  | some (s,g,x)=>q.gT s g x
  | none=>q
 let s2:=match e.new with
  | some (d,x)=>s1.news d x
  | none=>s1
 s2.put e.dst e.val
theorem aEG (e:mA) (q:QS):(q.app e).abs=e.apply q.abs:=by
 obtain⟨d,v,u,n⟩:=e
 unfold QS.app mA.apply;simp only[Ys];cases u with
 | none=>cases n with
   | none=>rfl
   | some n=>obtain⟨a,b⟩:=n;simp only[RP]
 | some u=>obtain⟨s,g,x⟩:=u;cases n with
   | none=>simp only[RO]
   | some n=>obtain⟨a,b⟩:=n;simp only[RP,RO]
def QS.back (q s:QS):QS:=⟨q.e,s.h,s.c⟩
theorem RQ (q s:QS):(q.back s).abs=q.abs.back s.abs:=rfl
def idx:Nat->List AV->List (Nat × AV)
 | _,[]=>[]
 | n,x :: r=>(n,x) :: idx (n+1) r
theorem YV:∀(xs:List AV) (n t:Nat),qE (idx n xs) t=if t<n then .v undef else (xs[t-n]?).getD (.v undef)
 | [],n,t=>by simp[idx,qE]
 | x :: r,n,t=>by
   rw[idx,qE,YV r (n+1) t,yE,Bool.cond_decide];by_cases h:t=n
   ·subst h;simp
   ·by_cases h2:t<n
    ·have:t<n+1:=by omega
     simp[h,h2,this]
    ·have h3:¬t<n+1:=by omega
     have h4:t-n=(t-(n+1))+1:=by omega
     simp[h,h2,h3,h4]
def QS.init (xs:List AV):QS:=⟨idx 0 xs,[],[]⟩
theorem RR (xs:List AV):(QS.init xs).abs=St.init xs:=by
 unfold QS.init QS.abs St.init;simp only
 congr 1
 funext t
 rw[YV];simp
def QS.oB (e sz n:Nat) (cs rest:List AV):QS:=⟨(0,.own 0 0) :: idx 1 rest,[(0,0,some (.row e sz n cs))],[(0,1)]⟩
theorem O1 (e sz n:Nat) (cs rest:List AV):(QS.oB e sz n cs rest).abs=St.oB e sz n cs rest:=by
 unfold QS.oB QS.abs St.oB;simp only
 congr 1
 ·funext t
  cases t with
  | zero=>rfl
  | succ t =>
    show qE (idx 1 rest) (t+1)=_
    rw[YV];simp
 ·funext s g
  simp[qH,yE,Bool.cond_decide,<- Bool.decide_and]
 ·funext s
  simp[qC,yE,Bool.cond_decide]
variable {β:Type}
def Xf (n:Nat) (k:Nat->β):β :=
 match n with
 | 0=>k 0
 | m+1=>k (m+1)
theorem Ty (n:Nat) (k:Nat->β):Xf n k=k n:=by cases n<;>rfl
def nfI (n:Int) (k:Int->β):β :=
 match n with
 | .ofNat m=>Xf m fun m=>k (.ofNat m)
 | .negSucc m=>Xf m fun m=>k (.negSucc m)
theorem aIR (n:Int) (k:Int->β):nfI n k=k n:=by cases n<;>simp[nfI,Ty]
def nfV (x:Value) (k:Value->β):β :=
 match x with
 | .int t n=>nfI n fun n=>k (.int t n)
 | .bool true=>k (.bool true)
 | .bool false=>k (.bool false)
 | x=>k x
theorem aIS (x:Value) (k:Value->β):nfV x k=k x:=by
 unfold nfV;split<;>simp[aIR]
def spL:List AV->(List AV->β)->β
 | [],k=>k []
 | x :: r,k=>spL r fun r=>k (x :: r)
theorem YW:∀(l:List AV) (k:List AV->β),spL l k=k l
 | [],k=>rfl
 | x :: r,k=>by rw[spL,YW r]
def nfA (x:AV) (k:AV->β):β :=
 match x with
 | .v y=>nfV y fun y=>k (.v y)
 | .agg cs=>spL cs fun cs=>k (.agg cs)
 | .sl m cs=>Xf m fun m=>spL cs fun cs=>k (.sl m cs)
 | .cl m cs=>Xf m fun m=>spL cs fun cs=>k (.cl m cs)
 | .ip cs o=>Xf o fun o=>spL cs fun cs=>k (.ip cs o)
 | .ptr s g o=>Xf s fun s=>Xf g fun g=>Xf o fun o=>k (.ptr s g o)
 | .own s g=>Xf s fun s=>Xf g fun g=>k (.own s g)
 | .vw s g o m=>Xf s fun s=>Xf g fun g=>Xf o fun o=>Xf m fun m=>k (.vw s g o m)
 | .dX cs=>spL cs fun cs=>k (.dX cs)
 | .uniq e sz m cs=>Xf m fun m=>spL cs fun cs=>k (.uniq e sz m cs)
 | x=>k x
theorem YX (x:AV) (k:AV->β):nfA x k=k x:=by
 unfold nfA;split<;>simp only[aIS,Ty,YW]
def aBg:List AV->(List AV->β)->β
 | [],k=>k []
 | x :: r,k=>nfA x fun x=>aBg r fun r=>k (x :: r)
theorem LA:∀(l:List AV) (k:List AV->β),aBg l k=k l
 | [],k=>rfl
 | x :: r,k=>by rw[aBg,YX,LA r]
def nfE (e:jC) (k:jC->β):β :=
 match e with
 | .cells cs=>spL cs fun cs=>k (.cells cs)
 | .row a b n cs=>Xf a fun a=>Xf b fun b=>Xf n fun n=>spL cs fun cs=>k (.row a b n cs)
 | .map es=>k (.map es)
 | .Dh a b n cs=>k (.Dh a b n cs)
theorem aBh (e:jC) (k:jC->β):nfE e k=k e:=by
 cases e<;>simp only[nfE,Ty,YW]
def aEH:List jC->(List jC->β)->β
 | [],k=>k []
 | x :: r,k=>nfE x fun x=>aEH r fun r=>k (x :: r)
theorem F1:∀(l:List jC) (k:List jC->β),aEH l k=k l
 | [],k=>rfl
 | x :: r,k=>by rw[aEH,aBh,F1 r]
def nfU (u:Option (Nat × Nat × Option jC)) (k:Option (Nat × Nat × Option jC)->β):β :=
 match u with
 | none=>k none
 | some (s,g,none)=>Xf s fun s=>Xf g fun g=>k (some (s,g,none))
 | some (s,g,some e)=>Xf s fun s=>Xf g fun g=>nfE e fun e=>k (some (s,g,some e))
theorem aIT (u:Option (Nat × Nat × Option jC)) (k:Option (Nat × Nat × Option jC)->β):nfU u k=k u:=by
 unfold nfU;split<;>simp only[Ty,aBh]
def nfW (u:Option (Nat × List jC)) (k:Option (Nat × List jC)->β):β :=
 match u with
 | none=>k none
 | some (d,es)=>Xf d fun d=>aEH es fun es=>k (some (d,es))
theorem aIU (u:Option (Nat × List jC)) (k:Option (Nat × List jC)->β):nfW u k=k u:=by
 unfold nfW;split<;>simp only[Ty,F1]
def aBi (e:mA) (k:mA->β):β :=
 match e with
 | ⟨d,v,u,n⟩=>nfA v fun v=>nfU u fun u=>nfW n fun n=>k ⟨d,v,u,n⟩
theorem aBj (e:mA) (k:mA->β):aBi e k=k e:=by
 obtain⟨d,v,u,n⟩:=e
 simp only[aBi,YX,aIT,aIU]
def spE:List (Nat × AV)->(List (Nat × AV)->β)->β
 | [],k=>k []
 | (a,x) :: r,k=>spE r fun r=>k ((a,x) :: r)
theorem aBk:∀(l:List (Nat × AV)) (k:List (Nat × AV)->β),spE l k=k l
 | [],k=>rfl
 | (a,x) :: r,k=>by rw[spE,aBk r]
def spH:List (Nat × Nat × Option jC)->(List (Nat × Nat × Option jC)->β)->β
 | [],k=>k []
 | (a,b,x) :: r,k=>spH r fun r=>k ((a,b,x) :: r)
theorem aBl:∀(l:List (Nat × Nat × Option jC)) (k:List (Nat × Nat × Option jC)->β),spH l k=k l
 | [],k=>rfl
 | (a,b,x) :: r,k=>by rw[spH,aBl r]
def spC:List (Nat × Nat)->(List (Nat × Nat)->β)->β
 | [],k=>k []
 | (a,x) :: r,k=>Xf x fun x=>spC r fun r=>k ((a,x) :: r)
theorem aBm:∀(l:List (Nat × Nat)) (k:List (Nat × Nat)->β),spC l k=k l
 | [],k=>rfl
 | (a,x) :: r,k=>by rw[spC,Ty,aBm r]
def nfQ (q:QS) (k:QS->β):β :=
 match q with
 | ⟨e,h,c⟩=>spE e fun e=>spH h fun h=>spC c fun c=>k ⟨e,h,c⟩
theorem aIV (q:QS) (k:QS->β):nfQ q k=k q:=by
 obtain⟨e,h,c⟩:=q
 simp only[nfQ,aBk,aBl,aBm]
def LB (f:AV->Option Bool):List AV->Option Bool
 | []=>some true
 | x :: r=>match f x with
   | some true=>LB f r
   | some false=>some false
   | none=>none
def fl:Nat->AV->Option Bool
 | 0,_=>none
 | n+1,x =>
   match x with
   | .v _=>some true
   | .agg cs=>LB (fl n) cs
   | .sl _ cs=>LB (fl n) cs
   | .cl _ cs=>LB (fl n) cs
   | .ip cs _=>LB (fl n) cs
   | .zC _ cs=>LB (fl n) cs
   | .dX cs=>LB (fl n) cs
   | _=>some false
theorem LC {f:AV->Option Bool} {p:AV->Prop} (hf:∀x b,f x=some b->(b=true↔p x)):∀(l:List AV) (b:Bool),LB f l=some b->(b=true↔∀x∈l,p x)
 | [],b,h=>by cases h;simp
 | x :: r,b,h=>by
   rw[LB] at h;cases e:f x with
   | none=>rw[e] at h;cases h
   | some c =>
     rw[e] at h;have h1:=hf x c e
     cases c with
     | true =>
       have h2:=LC hf r b h
       rw[h2];simp only[List.mem_cons,forall_eq_or_imp];exact⟨fun h=>⟨h1.1 rfl,h⟩,fun h=>h.2⟩
     | false =>
       cases h
       simp only[List.mem_cons,forall_eq_or_imp];exact⟨fun h=>absurd h (by simp),fun h=>absurd (h1.2 h.1) (by simp)⟩
theorem RS:∀(n:Nat) (x:AV) (b:Bool),fl n x=some b->(b=true↔Flat x)
 | 0,_,_,h=>by cases h
 | n+1,x,b,h=>by
   have ih:=LC (RS n)
   cases x with
   | v y=>cases h;exact⟨fun _=>.v y,fun _=>rfl⟩
   | agg cs=>exact (ih cs b h).trans ⟨fun h=>.agg _ h,fun h=>by cases h;assumption⟩
   | sl m cs=>exact (ih cs b h).trans ⟨fun h=>.sl _ _ h,fun h=>by cases h;assumption⟩
   | cl m cs=>exact (ih cs b h).trans ⟨fun h=>.cl _ _ h,fun h=>by cases h;assumption⟩
   | ip cs o=>exact (ih cs b h).trans ⟨fun h=>.ip _ _ h,fun h=>by cases h;assumption⟩
   | zC f cs=>exact (ih cs b h).trans ⟨fun h=>.zC _ _ h,fun h=>by cases h;assumption⟩
   | dX cs=>exact (ih cs b h).trans ⟨fun h=>.dX _ h,fun h=>by cases h;assumption⟩
   | ptr s g o=>cases h;exact⟨fun h=>(by cases h),fun h=>by cases h⟩
   | own s g=>cases h;exact⟨fun h=>(by cases h),fun h=>by cases h⟩
   | mp s g=>cases h;exact⟨fun h=>(by cases h),fun h=>by cases h⟩
   | uniq e sz m cs=>cases h;exact⟨fun h=>(by cases h),fun h=>by cases h⟩
   | vw s g o m=>cases h;exact⟨fun h=>(by cases h),fun h=>by cases h⟩
abbrev F9:AV->Option Bool:=fl 9
theorem f9t {x:AV} (h:F9 x=some true):Flat x:=(RS 9 x true h).1 rfl
theorem f9f {x:AV} (h:F9 x=some false):¬Flat x:=fun hf=>by have:=(RS 9 x false h).2 hf;cases this
theorem fLt {l:List AV} (h:LB F9 l=some true):∀x∈l,Flat x:=(LC (RS 9) l true h).1 rfl
theorem fLf {l:List AV} (h:LB F9 l=some false):¬ ∀x∈l,Flat x:=fun hf=>by have:=(LC (RS 9) l false h).2 hf;cases this
def mfr:Nat->AV->Bool
 | 0,_=>false
 | n+1,x =>
   match x with
   | .v _=>true
   | .agg cs=>cs.all (mfr n)
   | .dX cs=>cs.all (mfr n)
   | _=>false
theorem Tz:∀(n:Nat) (x:AV),mfr n x=true->eE x
 | 0,_,h=>by cases h
 | n+1,x,h=>by
   have ih:=Tz n
   cases x with
   | v y=>exact .v y
   | agg cs=>exact .agg _ fun x hx=>ih x (List.all_eq_true.1 h x hx)
   | dX cs=>exact .dX _ fun x hx=>ih x (List.all_eq_true.1 h x hx)
   | _=>cases h
def qX0 (st:St) (x:AV):Option AV :=
 match F9 x with
 | some true=>some x
 | some false =>
   match x with
   | .own s g =>
     match st.heap s g with
     | some (.row _ _ n cs)=>match LB F9 cs with
       | some true=>some (.sl n cs)
       | _=>none
     | _=>none
   | .vw s g o n =>
     match st.heap s g with
     | some (.row _ sz _ cs)=>match LB F9 cs with
       | some true=>if o+n * sz<=cs.length then some (.sl n ((cs.drop o).take (n * sz))) else none
       | _=>none
     | _=>none
   | _=>none
 | none=>none
theorem aBo {st:St} {x y:AV} (h:qX0 st x=some y):pN st x=some y:=by
 unfold qX0 at h;split at h
 ·rename_i e;cases h;unfold pN;rw[if_pos (f9t e)]
 ·rename_i e;unfold pN;rw[if_neg (f9f e)];split at h
  ·rename_i s g;split at h
   ·rename_i hh;split at h
    ·rename_i e2;cases h;simp only[hh];rw[if_pos (fLt e2)]
    ·cases h
   ·cases h
  ·rename_i s g o n;split at h
   ·rename_i hh;split at h
    ·rename_i e2;split at h
     ·rename_i e3;cases h;simp only[hh];rw[if_pos ⟨fLt e2,e3⟩]
     ·cases h
    ·cases h
   ·cases h
  ·cases h
 ·cases h
theorem RT {f g:AV->Option AV} (hf:∀x y,f x=some y->g x=some y):∀(l:List AV) (r:List AV),bK (l.map f)=some r->bK (l.map g)=some r
 | [],r,h=>h
 | x :: l,r,h=>by
   rw[List.map_cons] at h ⊢;cases e:f x with
   | none=>rw[e] at h;cases h
   | some y =>
     rw[e] at h;rw[hf x y e];simp only[bK] at h ⊢;cases e2:bK (l.map f) with
     | none=>rw[e2] at h;cases h
     | some ys=>rw[e2] at h;rw[RT hf l ys e2];exact h
def qX1 (st:St) (x:AV):Option AV :=
 match F9 x with
 | some true=>some x
 | some false =>
   match x with
   | .ptr s g o =>
     match st.heap s g with
     | some (.cells cs)=>(bK (cs.map (qX0 st))).map fun ds=>.ip ds o
     | _=>none
   | x=>qX0 st x
 | none=>none
theorem YY {st:St} {x y:AV} (h:qX1 st x=some y):cC st x=some y:=by
 unfold qX1 at h;split at h
 ·rename_i e;cases h;unfold cC;rw[if_pos (f9t e)]
 ·rename_i e;have hn:=f9f e
  split at h
  ·rename_i s g o;unfold cC;rw[if_neg hn];split at h
   ·rename_i hh;simp only[hh];cases e2:bK (List.map (qX0 st) _) with
    | none=>rw[e2] at h;cases h
    | some ds=>rw[e2] at h;rw[RT (fun x y=>aBo) _ _ e2];exact h
   ·cases h
  ·have h2:=aBo h
   unfold pN at h2;rw[if_neg hn] at h2;unfold cC;rw[if_neg hn];cases x with
   | ptr s g o=>cases h2
   | _=>first|exact h2|cases h2
 ·cases h
def qX (st:St) (x:AV):Option AV :=
 match F9 x with
 | some true=>some x
 | some false =>
   match x with
   | .agg cs=>(bK (cs.map (qX1 st))).map .agg
   | .zC f mH=>(bK (mH.map (qX1 st))).map (.zC f)
   | x=>qX1 st x
 | none=>none
theorem F2 {st:St} {x y:AV} (h:qX st x=some y):eW st x=some y:=by
 unfold qX at h;split at h
 ·rename_i e;cases h;unfold eW;rw[if_pos (f9t e)]
 ·rename_i e;have hn:=f9f e
  unfold eW;rw[if_neg hn];cases x with
  | agg cs =>
    simp only at h ⊢
    cases e2:bK (cs.map (qX1 st)) with
    | none=>rw[e2] at h;cases h
    | some ds=>rw[e2] at h;rw[RT (fun x y=>YY) _ _ e2];exact h
  | zC f cs =>
    simp only at h ⊢
    cases e2:bK (cs.map (qX1 st)) with
    | none=>rw[e2] at h;cases h
    | some ds=>rw[e2] at h;rw[RT (fun x y=>YY) _ _ e2];exact h
  | _=>exact YY h
 ·cases h
def frC:AV->Bool
 | .uniq _ _ _ cs=>cs.all (mfr 9)
 | x=>mfr 9 x
def fr1:AV->Bool
 | .agg cs=>cs.all frC
 | x=>frC x
def fr:AV->Bool
 | .dX vs=>vs.all fr1
 | x=>fr1 x
theorem wH {x:AV} (h:frC x=true):JM x:=by
 cases x with
 | uniq e sz n cs=>exact fun c hc=>Tz 9 c (List.all_eq_true.1 h c hc)
 | _=>exact Tz 9 _ h
theorem wI {x:AV} (h:fr1 x=true):JN x:=by
 cases x with
 | agg cs=>exact fun c hc=>wH (List.all_eq_true.1 h c hc)
 | uniq e sz n cs=>exact wH (x:=.uniq e sz n cs) h
 | _=>first|exact wH (x:=AV.v _) h|exact wH (x:=AV.sl _ _) h|exact wH (x:=AV.cl _ _) h|exact wH (x:=AV.ip _ _) h|exact wH (x:=AV.ptr _ _ _) h|exact wH (x:=AV.own _ _) h|exact wH (x:=AV.mp _ _) h|exact wH (x:=AV.zC _ _) h|exact wH (x:=AV.dX _) h|exact wH (x:=AV.uniq _ _ _ _) h|exact wH (x:=AV.vw _ _ _ _) h
theorem aPo {x:AV} (h:fr x=true):Vp x:=by
 cases x with
 | dX cs=>exact fun c hc=>wI (List.all_eq_true.1 h c hc)
 | uniq e sz n cs=>exact wI (x:=.uniq e sz n cs) h
 | _=>first|exact wI (x:=AV.v _) h|exact wI (x:=AV.agg _) h|exact wI (x:=AV.sl _ _) h|exact wI (x:=AV.cl _ _) h|exact wI (x:=AV.ip _ _) h|exact wI (x:=AV.ptr _ _ _) h|exact wI (x:=AV.own _ _) h|exact wI (x:=AV.mp _ _) h|exact wI (x:=AV.zC _ _) h|exact wI (x:=AV.uniq _ _ _ _) h|exact wI (x:=AV.vw _ _ _ _) h
def aEI (r:AV) (st:St) (dst:Option Nat):Option mA :=
 match F9 r with
 | some true=>some { dst:=dst,val:=r }
 | some false =>
   match dst with
   | some d=>some { dst:=some d,val:=(WA d (st.aK d) r).1,new:=some (d,(WA d (st.aK d) r).2)}
   | none=>none
 | none=>none
theorem F3 {r:AV} {st:St} {dst:Option Nat} {e:mA} (h:aEI r st dst=some e):iG r st dst=some e:=by
 unfold aEI at h;unfold iG;split at h
 ·rename_i e;rw[if_pos (f9t e)];exact h
 ·rename_i e;rw[if_neg (f9f e)];exact h
 ·cases h
noncomputable def qFn (call:Nat->List AV->Option AV) (g:Nat) (args:List AV) (st:St) (dst:Option Nat):Option mA :=
 match LB F9 args with
 | some true=>cA (call g args) fun r=>aEI r st dst
 | some false =>
   match bK (args.map (qX st)) with
   | some xs=>cA (call g xs) fun r=>bif fr r then aEI r st dst else none
   | none=>none
 | none=>none
abbrev yL (c c':Nat->List AV->Option AV):Prop:=∀g xs r,c g xs=some r->c' g xs=some r
theorem Ji {α γ:Type} {x y:Option α} {f g:α->Option γ} {r:γ} (h:cA x f=some r) (hx:∀a,x=some a->y=some a) (hf:∀a,f a=some r->g a=some r):cA y g=some r:=by
 cases e:x with
 | none=>rw[e] at h;cases h
 | some a=>rw[e] at h;rw[hx a e];exact hf a h
theorem LD {call call':Nat->List AV->Option AV} (hc:yL call call') {g:Nat} {args:List AV} {st:St} {dst:Option Nat} {e:mA} (h:qFn call g args st dst=some e):aN call' g args st dst=some e:=by
 unfold qFn at h;unfold aN;split at h
 ·rename_i e;rw[if_pos (fLt e)];exact Ji h (hc _ _) fun a h=>F3 h
 ·rename_i e;rw[if_neg (fLf e)];split at h
  ·rename_i e2;rw[RT (fun x y=>F2) _ _ e2]
   refine Ji h (hc _ _) fun a h=>?_
   cases e3:fr a with
   | false=>rw[e3] at h;cases h
   | true=>rw[e3] at h;rw[if_pos (aPo e3)];exact F3 h
  ·cases h
 ·cases h
noncomputable def qMv (call:Nat->List AV->Option AV) (g:Nat) (args:List AV) (st:St) (dst:Option Nat):Option mA :=
 match args with
 | .own s k :: rest =>
   match st.heap s k with
   | some (.row e sz n cs) =>
     match LB F9 cs,LB F9 rest with
     | some true,some true =>
       match call g (.uniq e sz n cs :: rest) with
       | some (.uniq e' rS n' Br) =>
         match dst with
         | some d=>some { dst:=some d,val:=.own d (st.aK d),dG:=some (s,k,none),new:=some (d,[.row e' rS n' Br])}
         | none=>none
       | some (.dX [.uniq e' rS n' Br])=>some { dst:=dst,val:=.dX [],dG:=some (s,k,some (.row e' rS n' Br))}
       | _=>none
     | _,_=>none
   | _=>none
 | args=>match LB F9 args with
   | some true=>qFn call g args st dst
   | _=>none
theorem aIX {call call':Nat->List AV->Option AV} (hc:yL call call') {g:Nat} {args:List AV} {st:St} {dst:Option Nat} {e:mA} (h:qMv call g args st dst=some e):kN call' g args st dst=some e:=by
 unfold qMv at h;unfold kN;split at h
 ·rename_i s k rest;simp only
  split at h
  ·rename_i e sz n cs hh;simp only[hh];split at h
   ·rename_i e1 e2;rw[if_pos ⟨fLt e1,fLt e2⟩];cases e3:call g (.uniq e sz n cs :: rest) with
    | none=>rw[e3] at h;cases h
    | some r=>rw[e3] at h;rw[hc _ _ _ e3];exact h
   ·cases h
  ·cases h
 ·rename_i hn;split at h
  ·rename_i e;split
   ·rename_i s k rest;exact absurd rfl (hn s k rest)
   ·rw[if_pos (fLt e)];exact LD hc h
  ·cases h
def aIY (c:AV):Bool :=
 match F9 c with
 | some true=>true
 | some false=>match c with
   | .own _ _=>true
   | _=>false
 | none=>false
def aEJ (x:AV):Bool :=
 match F9 x with
 | some true=>true
 | some false=>match x with
   | .own _ _=>true
   | .agg cs=>cs.all aIY
   | _=>false
 | none=>false
theorem aEK {c:AV} (h:aIY c=true):Flat c\/∃s k,c=.own s k:=by
 unfold aIY at h;split at h
 ·rename_i e;exact .inl (f9t e)
 ·split at h
  ·exact .inr ⟨_,_,rfl⟩
  ·cases h
 ·cases h
theorem aEL {x:AV} (h:aEJ x=true):OU x:=by
 unfold aEJ at h;split at h
 ·rename_i e;exact .inl (f9t e)
 ·split at h
  ·exact .inr (.inl ⟨_,_,rfl⟩)
  ·exact .inr (.inr ⟨_,rfl,fun c hc=>aEK (List.all_eq_true.1 h c hc)⟩)
  ·cases h
 ·cases h
def aBp (r:AV) (st:St) (dst:Option Nat) (s k:Nat):Option mA :=
 match F9 r with
 | some true=>some { dst:=dst,val:=r,dG:=some (s,k,none)}
 | some false =>
   match r,dst with
   | .uniq e sz n cs,some d=>bif cs.all (mfr 9) then some { dst:=some d,val:=.own d (st.aK d),dG:=some (s,k,none),new:=some (d,[.row e sz n cs])} else none
   | _,_=>none
 | none=>none
theorem aBq {r:AV} {st:St} {dst:Option Nat} {s k:Nat} {e:mA} (h:aBp r st dst s k=some e):zW r st dst s k=some e:=by
 unfold aBp at h;unfold zW;split at h
 ·rename_i e;rw[if_pos (f9t e)];exact h
 ·rename_i e;rw[if_neg (f9f e)];split at h
  ·rename_i cs d;cases e3:cs.all (mfr 9) with
   | false=>rw[e3] at h;cases h
   | true=>rw[e3] at h;simp only;rw[if_pos fun c hc=>Tz 9 c (List.all_eq_true.1 e3 c hc)];exact h
  ·cases h
 ·cases h
noncomputable def aIZ (call:Nat->List AV->Option AV) (g:Nat) (args:List AV) (st:St) (dst:Option Nat):Option mA :=
 match args.flatMap iV with
 | [(s,k)] =>
   bif args.all aEJ then
    match bK (args.map (qX st)) with
    | some xs=>cA (call g xs) fun r=>aBp r st dst s k
    | none=>none
   else none
 | _=>qFn call g args st dst
theorem aEM {call call':Nat->List AV->Option AV} (hc:yL call call') {g:Nat} {args:List AV} {st:St} {dst:Option Nat} {e:mA} (h:aIZ call g args st dst=some e):eY call' g args st dst=some e:=by
 unfold aIZ at h;unfold eY;split at h
 ·rename_i s k ek;simp only[ek];cases e3:args.all aEJ with
  | false=>rw[e3] at h;cases h
  | true =>
    rw[e3] at h;rw[if_pos fun x hx=>aEL (List.all_eq_true.1 e3 x hx)]
    simp only[cond_true] at h;split at h
    ·rename_i e2;rw[RT (fun x y=>F2) _ _ e2]
     exact Ji h (hc _ _) fun a h=>aBq h
    ·cases h
 ·rename_i hn;split
  ·rename_i s k ek;exact absurd ek (hn s k)
  ·exact LD hc h
section ext
variable [Ext] (P:Program)
noncomputable def aI0 (call:Nat->List AV->Option AV) (f:Operand) (args:List AV) (st:St) (dst:Option Nat):Option mA :=
 match f with
 | .func g=>if Ext.mv g=true then qMv call g args st dst else if Ext.eat g dst=true then aIZ call g args st dst else if Ext.WN g dst=true then none else qFn call g args st dst
 | f =>
   match EP (st.ev f) with
   | some (g,mH)=>qFn call g (args++mH) st dst
   | none=>none
theorem aEN {call call':Nat->List AV->Option AV} (hc:yL call call') {f:Operand} {args:List AV} {st:St} {dst:Option Nat} {e:mA} (h:aI0 call f args st dst=some e):mP call' f args st dst=some e:=by
 unfold aI0 at h;unfold mP;split at h
 ·rename_i g;simp only
  by_cases h1:Ext.mv g=true
  ·rw[if_pos h1] at h ⊢;exact aIX hc h
  ·rw[if_neg h1] at h ⊢;by_cases h2:Ext.eat g dst=true
   ·rw[if_pos h2] at h ⊢;exact aEM hc h
   ·rw[if_neg h2] at h ⊢;by_cases h3:Ext.WN g dst=true
    ·rw[if_pos h3] at h;cases h
    ·rw[if_neg h3] at h ⊢;exact LD hc h
 ·rename_i hn;split
  ·rename_i g;exact absurd rfl (hn g)
  ·split at h
   ·rename_i e;simp only[e];exact LD hc h
   ·cases h
def isNil:AV->Bool
 | .v (.slice none 0 0)=>true
 | _=>false
theorem aBr {x:AV}:isNil x=true↔x=.v (.slice none 0 0):=by
 constructor
 ·intro h;unfold isNil at h;split at h
  ·rfl
  ·cases h
 ·rintro rfl;rfl
def Yt (st:St) (T:Nat) (s x:AV):Bool:=isNil s && ((dI P T).isSome && (match aQ st x with|some (0,_)=>true|_=>false))
theorem BL {st:St} {T:Nat} {s x:AV}:Yt P st T s x=true↔Cr P st T s x:=by
 unfold Yt Cr;rw[Bool.and_eq_true,Bool.and_eq_true,aBr];have:(match aQ st x with|some (0,_)=>true|_=>false)=true↔(aQ st x).map Prod.fst=some 0:=by
  cases e:aQ st x with
  | none=>simp
  | some p =>
    obtain⟨n,cs⟩:=p
    cases n<;>simp
 rw[this]
noncomputable def aI1 (call:Nat->List AV->Option AV) (c:Call) (dst:Option Nat) (st:St):Option mA :=
 match c.callee with
 | .value f=>aI0 call f (c.args.toList.map st.ev) st dst
 | .builtin .append =>
   cA dst fun d =>
    match c.args.toList,c.argTypes.toList with
    | [s,x],[T,T'] =>
      if T=T' then
       if Ext.va T d=true then (mY P st T (st.ev s) (st.ev x)).map fun u=>{ dst:=some d,val:=.vw u.1 u.2.1 0 u.2.2.2,dG:=some (u.1,u.2.1,some u.2.2.1)} else
       bif Ext.pa T d && Yt P st T (st.ev s) (st.ev x) then some { dst:=some d,val:=.v (.slice none 0 0)} else
       cA (cY P st T (st.ev s) (st.ev x)) fun ur=>some { dst:=some d,val:=.own d (st.aK d),dG:=ur.1.map fun p=>(p.1,p.2,none),new:=some (d,[ur.2])}
      else none
    | _,_=>none
 | _=>hU P call c dst st
theorem aEO {call call':Nat->List AV->Option AV} (hc:yL call call') {c:Call} {dst:Option Nat} {st:St} {e:mA} (h:aI1 P call c dst st=some e):hU P call' c dst st=some e:=by
 obtain⟨callee,args,tN⟩:=c
 cases callee with
 | value f=>exact aEN hc h
 | builtin b =>
   cases b with
   | append =>
     unfold aI1 at h;unfold hU;simp only at h ⊢
     refine Ji h (fun _ h=>h) fun d h=>?_
     split at h
     ·rename_i s x T T' ha hb
      simp only[ha,hb];split at h
      ·rename_i hT;rw[if_pos hT];split at h
       ·rename_i hv;rw[if_pos hv];exact h
       ·rename_i hv;rw[if_neg hv];cases e3:(Ext.pa _ d && Yt P st _ (st.ev _) (st.ev _)) with
        | false =>
          rw[e3] at h;rw[if_neg]
          ·exact h
          ·rintro⟨h1,h2⟩
           rw[h1,(BL P).2 h2] at e3;cases e3
        | true =>
          rw[e3] at h;rw[Bool.and_eq_true] at e3;rw[if_pos ⟨e3.1,(BL P).1 e3.2⟩];exact h
      ·cases h
     ·cases h
   | _=>exact h
 | _=>exact h
def Wc:List Bool->List AV->List AV->Option Bool
 | [],[],[]=>some true
 | true :: l,.v (.int k a) :: xs,.v (.int k' b) :: ys=>if k=k' then (Wc l xs ys).map fun r=>decide (a=b) && r else none
 | false :: l,.v (.bool a) :: xs,.v (.bool b) :: ys=>(Wc l xs ys).map fun r=>(a == b) && r
 | _,_,_=>none
theorem aBs:∀(l:List Bool) (xs ys:List AV) (b:Bool),Wc l xs ys=some b->gU l xs ys/\(b=true↔xs=ys):=by
 intro l xs ys;induction l generalizing xs ys with
 | nil =>
   intro b h;unfold Wc at h;split at h<;>first|(cases h;done)|skip
   ·cases h;exact⟨by unfold gU;trivial,by simp⟩
   ·rename_i h1 _ _ _;simp at *
   ·simp at *
 | cons t l ih =>
   intro b h;unfold Wc at h;split at h
   ·rename_i e;cases e
   ·rename_i l' k a xs' k' b' ys' e
    cases e
    split at h
    ·rename_i hk;cases e2:Wc l xs' ys' with
     | none=>rw[e2] at h;cases h
     | some r =>
       rw[e2] at h;cases h
       obtain⟨h1,h2⟩:=ih _ _ _ e2
       refine⟨⟨hk,h1⟩, ?_⟩
       subst hk;simp[h2]
    ·cases h
   ·rename_i l' a xs' b' ys' e
    cases e
    cases e2:Wc l xs' ys' with
    | none=>rw[e2] at h;cases h
    | some r =>
      rw[e2] at h;cases h
      obtain⟨h1,h2⟩:=ih _ _ _ e2
      refine⟨h1, ?_⟩
      simp[h2]
   ·cases h
def O2 (T:Nat) (xs ys:List AV):Option Bool :=
 match eI P 20 T with
 | some l=>bif cX P T && !P.eqGuardType P.depth T then Wc l xs ys else none
 | none=>none
theorem F4 {T:Nat} {xs ys:List AV} {b:Bool} (h:O2 P T xs ys=some b):tR P T xs ys=some b:=by
 unfold O2 at h;unfold tR;split at h
 ·rename_i l e;simp only[e];cases e3:(cX P T && !P.eqGuardType P.depth T) with
  | false=>rw[e3] at h;cases h
  | true =>
    rw[e3] at h;rw[Bool.and_eq_true,Bool.not_eq_true'] at e3;obtain⟨h1,h2⟩:=aBs _ _ _ _ h
    rw[if_pos ⟨e3.1,e3.2,h1⟩];congr 1
    cases b with
    | true=>exact decide_eq_true (h2.1 rfl)
    | false=>exact decide_eq_false fun e=>by have:=h2.2 e;cases this
 ·cases h
noncomputable def aEP (op:BinOp) (T:Nat) (x y:AV):Option AV :=
 match x,y with
 | .agg xs,.agg ys =>
   match op with
   | .eql=>(O2 P T xs ys).map fun b=>.v (.bool b)
   | .neq=>(O2 P T xs ys).map fun b=>.v (.bool (!b))
   | _=>none
 | x,y=>fP P op T x y
theorem aEQ {op:BinOp} {T:Nat} {x y z:AV} (h:aEP P op T x y=some z):fP P op T x y=some z:=by
 unfold aEP at h;split at h
 ·rename_i xs ys;unfold fP;simp only
  split at h
  ·simp only
   cases e:O2 P T xs ys with
   | none=>rw[e] at h;cases h
   | some b=>rw[e] at h;rw[F4 P e];exact h
  ·simp only
   cases e:O2 P T xs ys with
   | none=>rw[e] at h;cases h
   | some b=>rw[e] at h;rw[F4 P e];exact h
  ·cases h
 ·exact h
noncomputable def qOp (call:Nat->List AV->Option AV) (o:Oper) (st:St):Option mA :=
 match o.op with
 | .call c=>aI1 P call c o.dst st
 | .binOp op T x y _=>(aEP P op T (st.ev x) (st.ev y)).map fun v=>{ dst:=o.dst,val:=v }
 | _=>cZ P call o st
theorem YZ {call call':Nat->List AV->Option AV} {o:Oper} {st:St} (h:∀c,o.op≠.call c):cZ P call o st=cZ P call' o st:=by
 unfold cZ;split<;>first|rfl|skip
 rename_i c e;exact absurd e (h c)
theorem aI2 {call call':Nat->List AV->Option AV} (hc:yL call call') {o:Oper} {st:St} {e:mA} (h:qOp P call o st=some e):cZ P call' o st=some e:=by
 unfold qOp at h;split at h
 ·rename_i c ec;unfold cZ;simp only[ec];exact aEO P hc h
 ·rename_i op T x y z ec;unfold cZ;simp only[ec,iP];cases e2:aEP P op T (st.ev x) (st.ev y) with
  | none=>rw[e2] at h;cases h
  | some v=>rw[e2] at h;rw[aEQ P e2];exact h
 ·rename_i h1 h2;rw[<- YZ P (call:=call) (call':=call') h1];exact h
abbrev ZA (q:Nat->List AV->QS->Option (AV × QS)) (i:Nat->List AV->St->Option (AV × St)):Prop:=∀g xs s r,q g xs s=some r->i g xs s.abs=some (r.1,r.2.abs)
noncomputable def aER (b:Bool) (call:Nat->List AV->Option AV) (inl:Nat->List AV->QS->Option (AV × QS)) (ops:Array Oper) (o:Oper) (q:QS):Option QS :=
 match (if b=true then Dj o else none) with
 | some (g,args) =>
   match gv ops q.abs o.guard with
   | some t=>if t=true then cA (inl g (args.map q.abs.ev) q) fun r=>nfA r.1 fun x=>some ((q.back r.2).put o.dst x) else some (q.put o.dst (.v undef))
   | none=>none
 | none =>
   match gv ops q.abs o.guard with
   | some t=>if t=true then cA (qOp P call o q.abs) fun e=>aBi e fun e=>some (q.app e) else some (q.put o.dst (.v undef))
   | none=>none
theorem aES {b:Bool} {call call':Nat->List AV->Option AV} {inl:Nat->List AV->QS->Option (AV × QS)} {aBt:Nat->List AV->St->Option (AV × St)} (hc:yL call call') (hi:ZA inl aBt) {ops:Array Oper} {o:Oper} {q q':QS} (h:aER P b call inl ops o q=some q'):gG P b call' aBt ops o q.abs=some q'.abs:=by
 unfold aER at h;unfold gG;split at h
 ·rename_i g args e;simp only[e];split at h
  ·rename_i t e2;simp only[e2];split at h
   ·rename_i ht;rw[if_pos ht];cases e3:inl g (args.map q.abs.ev) q with
    | none=>rw[e3] at h;cases h
    | some r =>
      rw[e3] at h;simp only[cA,YX] at h;cases h
      rw[hi _ _ _ _ e3,Ys,RQ];rfl
   ·rename_i ht;rw[if_neg ht];cases h;rw[Ys]
  ·cases h
 ·rename_i e;simp only[e];unfold cE;split at h
  ·rename_i t e2;simp only[e2];split at h
   ·rename_i ht;rw[if_pos ht];cases e3:qOp P call o q.abs with
    | none=>rw[e3] at h;cases h
    | some r =>
      rw[e3] at h;simp only[cA,aBj] at h;cases h
      rw[aI2 P hc e3,aEG];rfl
   ·rename_i ht;rw[if_neg ht];cases h;rw[Ys]
  ·cases h
noncomputable def IW (b:Bool) (call:Nat->List AV->Option AV) (inl:Nat->List AV->QS->Option (AV × QS)) (ops:Array Oper):List Oper->QS->Option QS
 | [],q=>nfQ q some
 | o :: r,q=>cA (aER P b call inl ops o q) (IW b call inl ops r)
theorem RU {b:Bool} {call call':Nat->List AV->Option AV} {inl:Nat->List AV->QS->Option (AV × QS)} {aBt:Nat->List AV->St->Option (AV × St)} (hc:yL call call') (hi:ZA inl aBt) {ops:Array Oper}:∀(l:List Oper) (q q':QS),IW P b call inl ops l q=some q'->lI P b call' aBt ops l q.abs=some q'.abs
 | [],q,q',h=>by
   simp only[IW,aIV] at h;cases h;rfl
 | o :: r,q,q',h=>by
   rw[IW] at h;rw[lI];cases e:aER P b call inl ops o q with
   | none=>rw[e] at h;cases h
   | some s =>
     rw[e] at h;rw[aES P hc hi e];exact RU hc hi r s q' h
def aI3 (x y:AV):Bool :=
 match keyOf x,keyOf y with
 | some (some k),some (some k')=>!(k.1 == k'.1 && k.2 == k'.2)
 | some _,some _=>true
 | _,_=>false
theorem aET {x y:AV} (h:aI3 x y=true):fD x y:=by
 unfold aI3 at h;unfold fD;cases e1:keyOf x with
 | none=>simp[e1] at h
 | some a =>
   cases e2:keyOf y with
   | none=>cases a<;>simp[e1,e2] at h
   | some b =>
     cases a with
     | none=>cases b<;>trivial
     | some a =>
       cases b with
       | none=>trivial
       | some b =>
         rw[e1,e2] at h;show a≠b
         rintro rfl
         simp at h
def swB (ops:Array Oper) (s:St) (p:Nat × Nat):Bool :=
 match (ops[p.1]?).bind gJ,(ops[p.2]?).bind gJ with
 | some aS,some bs=>aS.all fun a=>bs.all fun b=>aI3 (s.env a) (s.env b)
 | _,_=>false
theorem aI4 {ops:Array Oper} {s:St} {p:Nat × Nat} (h:swB ops s p=true):Nq ops s p:=by
 unfold swB at h;unfold Nq;split at h
 ·rename_i e1 e2;simp only[e1,e2];exact fun a ha b hb=>aET (List.all_eq_true.1 (List.all_eq_true.1 h a ha) b hb)
 ·cases h
theorem aBu {ops:Array Oper} {s:St}:∀(l:List (Nat × Nat)),l.all (swB ops s)=true->pB ops s l
 | [],_=>trivial
 | p :: l,h=>by
   rw[List.all_cons,Bool.and_eq_true] at h;exact⟨aI4 h.1,aBu l h.2⟩
noncomputable def EO (bi:Bool) (call:Nat->List AV->Option AV) (inl:Nat->List AV->QS->Option (AV × QS)):Nat->Code->QS->Option (Ex × QS)
 | 0,_,_=>none
 | n+1,c,q =>
   match c with
   | .skip=>some (.normal,q)
   | .region id ops _=>cA (IW P bi call inl ops ops.toList q) fun s=>bif bi && !(Ext.dyn id ops.size (pO ops)).all (swB ops s.abs) then none else some (.normal,s)
   | .seq a b=>cA (EO bi call inl n a q) fun r=>match r.1 with
     | .normal=>EO bi call inl n b r.2
     | e=>some (e,r.2)
   | .cond c a b =>
     match q.abs.ev c with
     | .v (.bool t)=>if t=true then EO bi call inl n a q else EO bi call inl n b q
     | _=>none
   | .block id b=>cA (EO bi call inl n b q) fun r=>some (r.1.inBlock id,r.2)
   | .loop b=>cA (EO bi call inl n b q) fun r=>match r.1 with
     | .normal=>EO bi call inl n (.loop b) r.2
     | e=>some (e,r.2)
   | .exit id=>some (.exit id,q)
   | .ret=>some (.ret,q)
   | _=>none
theorem LF {bi:Bool} {call:Nat->List AV->Option AV} {inl:Nat->List AV->QS->Option (AV × QS)} (hc:yL call (aC P)) (hi:ZA inl (rK P)):∀(n:Nat) (c:Code) (q:QS) (r:Ex × QS),EO P bi call inl n c q=some r->wW P bi c q.abs=some (r.1,r.2.abs)
 | 0,_,_,_,h=>by cases h
 | n+1,c,q,r,h=>by
   have ih:=LF (bi:=bi) hc hi n
   cases c with
   | skip=>cases h;exact BM P _
   | region id ops dr =>
     simp only[EO] at h;rw[Oi];cases e:IW P bi call inl ops ops.toList q with
     | none=>rw[e] at h;cases h
     | some s =>
       rw[e] at h;rw[RU P hc hi _ _ _ e];simp only[cA] at h ⊢;cases e2:(bi && !(Ext.dyn id ops.size (pO ops)).all (swB ops s.abs)) with
       | true=>rw[e2] at h;cases h
       | false =>
         rw[e2] at h;cases h
         rw[if_neg];rintro⟨h1,h2⟩
         subst h1;rw[Bool.true_and,Bool.not_eq_false'] at e2;exact h2 (aBu _ e2)
   | seq a b =>
     simp only[EO] at h;rw[Yq];cases e:EO P bi call inl n a q with
     | none=>rw[e] at h;cases h
     | some s =>
       rw[e] at h;rw[ih _ _ _ e];obtain⟨x,s⟩:=s
       simp only[cA,Qy] at h ⊢;cases x with
       | normal=>exact ih _ _ _ h
       | exit i=>cases h;rfl
       | ret=>cases h;rfl
   | cond c a b =>
     simp only[EO] at h;split at h
     ·rename_i t e;rw[BN P c a b _ e];split at h
      ·rename_i ht;rw[if_pos ht];exact ih _ _ _ h
      ·rename_i ht;rw[if_neg ht];exact ih _ _ _ h
     ·cases h
   | block id b =>
     simp only[EO] at h;rw[Ua];cases e:EO P bi call inl n b q with
     | none=>rw[e] at h;cases h
     | some s=>rw[e] at h;rw[ih _ _ _ e];cases h;rfl
   | loop b =>
     simp only[EO] at h;rw[BO];cases e:EO P bi call inl n b q with
     | none=>rw[e] at h;cases h
     | some s =>
       rw[e] at h;rw[ih _ _ _ e];obtain⟨x,s⟩:=s
       simp only[cA,Qy] at h ⊢;cases x with
       | normal=>exact ih _ _ _ h
       | exit i=>cases h;rfl
       | ret=>cases h;rfl
   | exit id=>cases h;exact BP P _ _
   | ret=>cases h;exact LG P _
   | _=>cases h
def qR (st:St) (x:AV):Option AV :=
 match x with
 | .own s g =>
   match st.heap s g with
   | some (.row e sz n cs)=>match LB F9 cs with
     | some true=>some (.uniq e sz n cs)
     | _=>none
   | _=>none
 | x=>qX st x
theorem aPq {st:St} {x y:AV} (h:qR st x=some y):Ih st x=some y:=by
 unfold qR at h;split at h
 ·unfold Ih;simp only
  split at h
  ·rename_i hh;simp only[hh];split at h
   ·rename_i e;rw[if_pos (fLt e)];exact h
   ·cases h
  ·cases h
 ·rename_i hn;unfold Ih;split
  ·rename_i s g;exact absurd rfl (hn s g)
  ·exact F2 h
theorem aPr {st:St} {x y:AV} (h:qX st x=some y):zX st x=some y:=by
 unfold zX;rw[F2 h]
noncomputable def aBv (fn:Func) (st:St):Option AV :=
 match fn.results.toList with
 | [r]=>cA (jB P st r) (qR st)
 | rs=>(bK (rs.map fun r=>cA (jB P st r) (qX st))).map .dX
theorem aHn {α:Type} {f g:α->Option AV} (hf:∀x y,f x=some y->g x=some y):∀(l:List α) (r:List AV),bK (l.map f)=some r->bK (l.map g)=some r
 | [],r,h=>h
 | x :: l,r,h=>by
   rw[List.map_cons] at h ⊢;cases e:f x with
   | none=>rw[e] at h;cases h
   | some y =>
     rw[e] at h;rw[hf x y e];simp only[bK] at h ⊢;cases e2:bK (l.map f) with
     | none=>rw[e2] at h;cases h
     | some ys=>rw[e2] at h;rw[aHn hf l ys e2];exact h
theorem aBw {fn:Func} {st:St} {y:AV} (h:aBv P fn st=some y):tC P fn st=some y:=by
 unfold aBv at h;unfold tC;split at h
 ·rename_i r e;simp only[e];exact Ji h (fun _ h=>h) fun a h=>aPq h
 ·rename_i rs hn;split
  ·rename_i r e;exact absurd e (hn r)
  ·cases e:bK (fn.results.toList.map fun r=>cA (jB P st r) (qX st)) with
   | none=>rw[e] at h;cases h
   | some ys =>
     rw[e] at h;rw[aHn (fun x y hxy=>Ji hxy (fun _ h=>h) fun a h=>aPr h) _ _ e]
     exact h
def qUC (st:St) (x:AV):Option AV :=
 match F9 x with
 | some true=>some x
 | some false =>
   match x with
   | .own s g =>
     match st.heap s g with
     | some (.row e sz n cs)=>match LB F9 cs with
       | some true=>some (.uniq e sz n cs)
       | _=>none
     | _=>none
   | _=>none
 | none=>none
theorem aBx {st:St} {x y:AV} (h:qUC st x=some y):jU st x=some y:=by
 unfold qUC at h;unfold jU;split at h
 ·rename_i e;rw[if_pos (f9t e)];exact h
 ·rename_i e;rw[if_neg (f9f e)];split at h
  ·simp only
   split at h
   ·rename_i hh;simp only[hh];split at h
    ·rename_i e2;rw[if_pos (fLt e2)];exact h
    ·cases h
   ·cases h
  ·cases h
 ·cases h
def qU1 (st:St):AV->Option AV
 | .agg cs=>(bK (cs.map (qUC st))).map .agg
 | x=>qUC st x
theorem aBy {st:St} {x y:AV} (h:qU1 st x=some y):qB st x=some y:=by
 unfold qU1 at h;unfold qB;split at h
 ·rename_i cs;simp only
  cases e:bK (cs.map (qUC st)) with
  | none=>rw[e] at h;cases h
  | some ys=>rw[e] at h;rw[RT (fun x y=>aBx) _ _ e];exact h
 ·rename_i hn;split
  ·rename_i cs;exact absurd rfl (hn cs)
  ·exact aBx h
def qU (st:St):AV->Option AV
 | .dX vs=>(bK (vs.map (qU1 st))).map .dX
 | x=>qU1 st x
theorem aPu {st:St} {x y:AV} (h:qU st x=some y):yI st x=some y:=by
 unfold qU at h;unfold yI;split at h
 ·rename_i cs;simp only
  cases e:bK (cs.map (qU1 st)) with
  | none=>rw[e] at h;cases h
  | some ys=>rw[e] at h;rw[RT (fun x y=>aBy) _ _ e];exact h
 ·rename_i hn;split
  ·rename_i cs;exact absurd rfl (hn cs)
  ·exact aBy h
def ndB:List (Nat × Nat)->Bool
 | []=>true
 | p :: r=>(r.all fun x=>!(Nat.beq p.1 x.1 && Nat.beq p.2 x.2)) && ndB r
theorem aBz:∀(l:List (Nat × Nat)),ndB l=true->l.Nodup
 | [],_=>List.nodup_nil
 | p :: r,h=>by
   rw[ndB,Bool.and_eq_true] at h;refine List.nodup_cons.2 ⟨fun hm=>?_,aBz r h.2⟩
   have:=List.all_eq_true.1 h.1 p hm
   simp at this
noncomputable def aBA (fn:Func) (st:St):Option AV :=
 match fn.results.toList with
 | [r]=>cA (jB P st r) fun x=>bif ndB (jJ x) then qU st x else none
 | rs=>cA (bK (rs.map fun r=>jB P st r)) fun xs=>bif ndB (jJ (.dX xs)) then qU st (.dX xs) else none
theorem aBB {fn:Func} {st:St} {y:AV} (h:aBA P fn st=some y):Fq P fn st=some y:=by
 have key:∀x,(bif ndB (jJ x) then qU st x else none)=some y->(if (jJ x).Nodup then yI st x else none)=some y:=fun x h=>by
  cases e:ndB (jJ x) with
  | false=>rw[e] at h;cases h
  | true=>rw[e] at h;rw[if_pos (aBz _ e)];exact aPu h
 unfold aBA at h;unfold Fq;split at h
 ·rename_i r e;simp only[e];exact Ji h (fun _ h=>h) fun a h=>key a h
 ·rename_i rs hn;split
  ·rename_i r e;exact absurd e (hn r)
  ·exact Ji h (fun _ h=>h) fun a h=>key _ h
noncomputable def aI6 (f:Nat) (fn:Func) (st:St):Option AV:=if Ext.pY f=true then aBA P fn st else aBv P fn st
theorem F5 {f:Nat} {fn:Func} {st:St} {y:AV} (h:aI6 P f fn st=some y):iH P f fn st=some y:=by
 unfold aI6 at h;unfold iH;split at h
 ·rename_i e;rw[if_pos e];exact aBB P h
 ·rename_i e;rw[if_neg e];exact aBw P h
def OkT (P:Program) (ok:Nat->Bool):Prop:=∀f fn,ok f=true->P.funcs[f]? = some fn->sO fn=true
noncomputable def aBC (ok:Nat->Bool) (call:Nat->List AV->Option AV) (inl:Nat->List AV->QS->Option (AV × QS)) (n f:Nat) (xs:List AV):Option AV :=
 match P.funcs[f]? with
 | some fn =>
   bif ok f then
    match fn.body with
    | some c=>cA (EO P (kI c) call inl n c (QS.init xs)) fun r=>match r.1 with
      | .exit _=>none
      | _=>aI6 P f fn r.2.abs
    | none=>none
   else none
 | none=>none
theorem aBD {ok:Nat->Bool} (hk:OkT P ok) (hx:∀f,ok f=true->∀xs,Ext.ext f xs=none) {call:Nat->List AV->Option AV} {inl:Nat->List AV->QS->Option (AV × QS)} (hc:yL call (aC P)) (hi:ZA inl (rK P)) {n f:Nat} {xs:List AV} (hu:xs.any oC=false) {y:AV} (h:aBC P ok call inl n f xs=some y):aC P f xs=some y:=by
 unfold aBC at h;split at h
 ·rename_i fn e;cases e3:ok f with
  | false=>rw[e3] at h;cases h
  | true =>
    rw[e3] at h;simp only[cond_true] at h;split at h
    ·rename_i c eb;rw[BR P e eb (hk f fn e3 e) xs (hx f e3 _) hu,<- RR];cases e2:EO P (kI c) call inl n c (QS.init xs) with
     | none=>rw[e2] at h;cases h
     | some r =>
       rw[e2] at h;rw[LF P hc hi _ _ _ _ e2];obtain⟨x,s⟩:=r
       cases x with
       | exit i=>cases h
       | normal=>exact F5 P h
       | ret=>exact F5 P h
    ·cases h
 ·cases h
def aBE (fn:Func) (st:St):Option AV :=
 match fn.results.toList with
 | [r] =>
   match jB P st r with
   | some (.own s g) =>
     match st.heap s g with
     | some (.row e sz n cs)=>bif cs.all (mfr 9) then some (.uniq e sz n cs) else none
     | _=>none
   | some (.vw s g 0 k) =>
     match st.heap s g with
     | some (.row e sz n cs)=>bif (Nat.ble k n && Nat.beq cs.length (n * sz)) && cs.all (mfr 9) then some (.uniq e sz k (cs.take (k * sz))) else none
     | _=>none
   | _=>none
 | _=>none
theorem RV {fn:Func} {st:St} {y:AV} (h:aBE P fn st=some y):Bs P fn st=some y:=by
 unfold aBE at h;unfold Bs;split at h
 ·rename_i r e;simp only[e];split at h
  ·rename_i s g er;simp only[er];split at h
   ·rename_i a b n cs hh;simp only[hh];cases e3:cs.all (mfr 9) with
    | false=>rw[e3] at h;cases h
    | true=>rw[e3] at h;rw[if_pos fun c hc=>Tz 9 c (List.all_eq_true.1 e3 c hc)];exact h
   ·cases h
  ·rename_i s g k er;simp only[er];split at h
   ·rename_i a b n cs hh;simp only[hh];cases e3:((Nat.ble k n && Nat.beq cs.length (n * b)) && cs.all (mfr 9)) with
    | false=>rw[e3] at h;cases h
    | true =>
      rw[e3] at h;rw[Bool.and_eq_true,Bool.and_eq_true] at e3;rw[if_pos ⟨Nat.le_of_ble_eq_true e3.1.1,Nat.eq_of_beq_eq_true e3.1.2,fun c hc=>Tz 9 c (List.all_eq_true.1 e3.2 c hc)⟩]
      exact h
   ·cases h
  ·cases h
 ·cases h
noncomputable def aBF (ok:Nat->Bool) (call:Nat->List AV->Option AV) (inl:Nat->List AV->QS->Option (AV × QS)) (n f e sz m:Nat) (cs rest:List AV):Option AV :=
 match P.funcs[f]? with
 | some fn =>
   bif ok f then
    match fn.body with
    | some c=>cA (EO P (kI c) call inl n c (QS.oB e sz m cs rest)) fun r=>match r.1 with
      | .exit _=>none
      | _=>aBE P fn r.2.abs
    | none=>none
   else none
 | none=>none
theorem aBG {ok:Nat->Bool} (hk:OkT P ok) (hx:∀f,ok f=true->∀xs,Ext.ext f xs=none) {call:Nat->List AV->Option AV} {inl:Nat->List AV->QS->Option (AV × QS)} (hc:yL call (aC P)) (hi:ZA inl (rK P)) {n f e sz m:Nat} {cs rest:List AV} {y:AV} (h:aBF P ok call inl n f e sz m cs rest=some y):aC P f (.uniq e sz m cs :: rest)=some y:=by
 unfold aBF at h;split at h
 ·rename_i fn ef;cases e3:ok f with
  | false=>rw[e3] at h;cases h
  | true =>
    rw[e3] at h;simp only[cond_true] at h;split at h
    ·rename_i c eb;rw[AQ P ef eb (hk f fn e3 ef) _ _ _ _ _ (hx f e3 _),<- O1];cases e2:EO P (kI c) call inl n c (QS.oB e sz m cs rest) with
     | none=>rw[e2] at h;cases h
     | some r =>
       rw[e2] at h;rw[LF P hc hi _ _ _ _ e2];obtain⟨x,s⟩:=r
       cases x with
       | exit i=>cases h
       | normal=>exact RV P h
       | ret=>exact RV P h
    ·cases h
 ·cases h
noncomputable def aBH (call:Nat->List AV->Option AV) (inl:Nat->List AV->QS->Option (AV × QS)) (n f:Nat) (xs:List AV) (q:QS):Option (AV × QS) :=
 match P.funcs[f]? with
 | some fn =>
   if Vq true fn=true then
    match fn.body with
    | some c=>cA (EO P true call inl n c ((QS.init xs).back q)) fun r=>match r.1 with
      | .exit _=>none
      | _=>(tE P fn r.2.abs).map fun x=>(x,r.2)
    | none=>none
   else none
 | none=>none
theorem aBI {call:Nat->List AV->Option AV} {inl:Nat->List AV->QS->Option (AV × QS)} (hc:yL call (aC P)) (hi:ZA inl (rK P)) {n f:Nat} {xs:List AV} {q:QS} {r:AV × QS} (hxi:Ext.Wv f xs q.abs=none) (h:aBH P call inl n f xs q=some r):rK P f xs q.abs=some (r.1,r.2.abs):=by
 unfold aBH at h;split at h
 ·rename_i fn ef;split at h
  ·rename_i ok;split at h
   ·rename_i c eb;rw[Kt P ef eb ok _ _ hxi];cases e2:EO P true call inl n c ((QS.init xs).back q) with
    | none=>rw[e2] at h;cases h
    | some u =>
      rw[e2] at h;have e3:=LF P hc hi _ _ _ _ e2
      rw[RQ,RR] at e3;rw[e3];obtain⟨x,s⟩:=u
      have key:((tE P fn s.abs).map fun x=>(x,s))=some r->((tE P fn s.abs).map fun x=>(x,s.abs))=some (r.1,r.2.abs):=fun h=>by
       cases e4:tE P fn s.abs with
       | none=>rw[e4] at h;cases h
       | some z=>rw[e4] at h;cases h;rfl
      cases x with
      | exit i=>cases h
      | normal=>exact key h
      | ret=>exact key h
   ·cases h
  ·cases h
 ·cases h
noncomputable def X5 (ok:Nat->Bool) (K:Nat->List AV->Option AV):Nat->(Nat->List AV->Option AV) × (Nat->List AV->QS->Option (AV × QS))
 | 0=>(fun _ _=>none,fun _ _ _=>none)
 | n+1=>(fun f xs=>aBg xs fun xs =>
     match K f xs with
     | some r=>some r
     | none=>match oD xs with
     | some u=>aBF P ok (X5 ok K n).1 (X5 ok K n).2 n f u.1 u.2.1 u.2.2.1 u.2.2.2.1 u.2.2.2.2
     | none=>if xs.any oC=true then none else aBC P ok (X5 ok K n).1 (X5 ok K n).2 n f xs,
  fun f xs q=>aBg xs fun xs=>bif Ext.isI f && Kj xs then none else aBH P (X5 ok K n).1 (X5 ok K n).2 n f xs q)
theorem FG {xs:List AV} {u:Nat × Nat × Nat × List AV × List AV} (h:oD xs=some u):xs=.uniq u.1 u.2.1 u.2.2.1 u.2.2.2.1 :: u.2.2.2.2:=by
 unfold oD at h;split at h
 ·cases h;rfl
 ·cases h
theorem aBJ {ok:Nat->Bool} (hk:OkT P ok) (hx:∀f,ok f=true->∀xs,Ext.ext f xs=none) (hy:∀f xs st,(Ext.isI f && Kj xs)=false->Ext.Wv f xs st=none) {K:Nat->List AV->Option AV} (hK:yL K (aC P)):∀n,yL (X5 P ok K n).1 (aC P)/\ZA (X5 P ok K n).2 (rK P)
 | 0=>⟨fun g xs r h=>(by cases h),fun g xs s r h=>by cases h⟩
 | n+1=>by
   obtain⟨ih1,ih2⟩:=aBJ hk hx hy hK n
   refine⟨fun g xs r h=>?_,fun g xs s r h=>?_⟩
   ·simp only[X5,LA] at h;split at h
    ·rename_i r' e
     rw[<- h];exact hK _ _ _ e
    ·split at h
     ·rename_i u e;rw[FG e];exact aBG P hk hx ih1 ih2 h
     ·rename_i e;split at h
      ·cases h
      ·rename_i e2;exact aBD P hk hx ih1 ih2 (by simpa using e2) h
   ·simp only[X5,LA] at h;cases hi:Ext.isI g && Kj xs with
    | true=>rw[hi] at h;cases h
    | false=>rw[hi] at h;exact aBI P ih1 ih2 (hy g xs _ hi) h
def LH:Option AV->Bool
 | some (.v (.bool b))=>b
 | _=>false
theorem O3 {ok:Nat->Bool} (hk:OkT P ok) (hx:∀f,ok f=true->∀xs,Ext.ext f xs=none) (hy:∀f xs st,(Ext.isI f && Kj xs)=false->Ext.Wv f xs st=none) {K:Nat->List AV->Option AV} (hK:yL K (aC P)) (n:Nat) {f:Nat} {xs:List AV} (h:LH ((X5 P ok K n).1 f xs)=true):aC P f xs=some (.v (.bool true)):=by
 refine (aBJ P hk hx hy hK n).1 _ _ _ ?_
 unfold LH at h;split at h
 ·rename_i b e;rw[e,h]
 ·cases h
end ext
end Go.Ab
end
namespace Go.Ab.Tryz
open Classical Go.Proofs Go.Ab
def okL:List Nat:=[151,30,32,46,47,49,64,65,70,71,73,76,80,81,83,85,86,87,89,98,101,102,109,130,138,139,140,142,144,145,148,149,150,156,157,158,160,161,162,163,165,166,175,176,177,178,180,181,186,190,191,192,193,194,196,197,198,199,207,208,209,223,224,225,239,240,241,242,243,244,245,248,249,250,251,252]
def okT:Nat->Bool:=fun f=>okL.any (Nat.beq f)
noncomputable def aPw:Bool:=okL.all fun f=>match Tryz.prog.funcs[f]? with|some fn=>sO fn|none=>true
theorem aBK:aPw=true:=by kernel_rfl
theorem aI7:OkT Tryz.prog okT:=fun f fn h e=>by
 obtain⟨g,hg,h2⟩:=List.any_eq_true.1 h
 rw[Nat.eq_of_beq_eq_true h2] at e;have:=List.all_eq_true.1 aBK g hg
 rw[e] at this;exact this
def kT:Nat->List AV->Option AV:=fun f xs=>bif f == 164 then (match xs with | [.v (.slice none 0 0)]=>some (.v (.slice none 0 0))|_=>none) else none
theorem aPx:yL kT (aC Tryz.prog):=fun g xs r h=>by
 unfold kT at h;cases hg:g == 164 with
 | false=>rw[hg] at h;cases h
 | true =>
   rw[hg] at h;have hg:g=164:=by simpa using hg
   subst hg;simp only[cond_true] at h;split at h
   ·cases h
    exact aOP none nofun (by decide)
   ·cases h
theorem aI8:okL.all (fun g=>!(g == 164))=true:=by decide
theorem aEU:∀f,okT f=true->∀xs,Ext.ext f xs=none:=fun f h xs=>by
 obtain⟨g,hg,h2⟩:=List.any_eq_true.1 h
 have:=List.all_eq_true.1 aI8 g hg
 rw[Nat.eq_of_beq_eq_true h2];exact sV g xs (by simpa using this)
theorem aPy:LH ((X5 Tryz.prog okT kT 120).1 70 [])=true:=by kernel_rfl
theorem c70:aC Tryz.prog 70 []=some (.v (.bool true)):=O3 Tryz.prog aI7 aEU aBL aPx 120 aPy
theorem k70 (st:St) (d:Option Nat):aN (aC Tryz.prog) 70 [] st d=some { dst:=d,val:=.v (.bool true)}:=bL (fun x h=>by cases h) c70 (.v _)
end Go.Ab.Tryz
namespace Go.Ab.Tryz
open Classical Go.Proofs Go.Ab
end Go.Ab.Tryz
namespace Go.Ab.Tryz
open Classical Go.Proofs Go.Ab
theorem aI9 {t:State} {v:SV} {Q R:Option (List Request)} (h:TD t v Q R) (hn:((ol R).length:Int)<800000) (r:Request):∃R',TD (Tt t v.ns (ol R) r) v Q R':=by
 unfold Tt;split
 ·exact⟨R,h⟩
 split
 ·exact⟨R,h.sd,h.Cf,h.ret,h.nQ,h.nR⟩
 ·exact⟨some (wG (ol R).length (ol R++[FE t r])),h.sd,h.Cf,rfl,h.nQ,by rw[Qx,AZ,List.length_append,List.length_singleton];omega⟩
theorem c21 (l:List Int) (k:Int) (hl:(l.length:Int)<=9223372036854775807):aC Tryz.prog 21 [.sl l.length (aI l),.v (.int .i64 k)]=some (.v (.bool true)):=by
 obtain⟨t,v,Q,R,hy,T⟩:=x24 l hl
 have ft:=T.td.flat
 have k24:=kx hy (cT (Tc l)) ft
 obtain⟨hB,L,hL,hL0⟩:=T.lists
 have EY:v.L≠some []:=fun e=>hL0 (Option.some.inj (hL.symm.trans e))
 have hs:=T.gi.sd
 have ht:=hs.tree
 have Cu:(0:Int)<(v.ns.length:Int):=by have:=T.gi.pos;omega
 have gI:¬((v.ns.length:Int)=0):=by omega
 have nR:=T.td.nR
 have nR2:((ol R).length:Int)<=256:=by have:=T.lr;have:=T.aAO;omega
 obtain⟨cb,hcb⟩:=T.cfg
 obtain⟨b0,b1⟩:=Dn k 16777215 (by decide)
 obtain⟨kk,hkk⟩:∃kk,IntKind.i64.wrap ((BitVec.ofInt IntKind.i64.bits k &&& BitVec.ofInt IntKind.i64.bits 16777215).toNat:Int)=kk:=⟨_,rfl⟩
 rw[hkk] at b0;have f0:=yS b0 (min 5 IntKind.i64.bits)
 obtain⟨m1,m2⟩:=eB (n:=(v.ns.length:Int)) f0 Cu
 obtain⟨p,hp⟩:∃p,(kk.fdiv (2 ^ min 5 IntKind.i64.bits)).tmod (v.ns.length:Int)=p:=⟨_,rfl⟩
 rw[hp] at m1 m2;obtain⟨c0,c1⟩:=Dn (kk.fdiv (2 ^ min 9 IntKind.i64.bits)) 3 (by decide)
 obtain⟨tr,htr⟩:∃x,IntKind.i64.wrap ((BitVec.ofInt IntKind.i64.bits (kk.fdiv (2 ^ min 9 IntKind.i64.bits)) &&& BitVec.ofInt IntKind.i64.bits 3).toNat:Int)=x:=⟨_,rfl⟩
 rw[htr] at c0 c1;have aBM:=k70
 rw[cL Tryz.func21 rfl aVi rfl];refine iX ?_
 simp only[Z8,seval,k24,hkk,ht,gI,hp,m1,m2,htr,Vt];refine Qk (fun a=>a.1=.normal/\∃r:Request,(0<=r.tries/\r.tries<=3)/\a.2.env 1=.v (.int .i64 kk)/\a.2.env 5=.ptr 5 0 0/\a.2.heap 5 0=some (.cells (aF t))/\a.2.env 6=.ptr 6 0 0/\a.2.heap 6 0=some (.cells (bA r))) ?ma ?ra
 case ma =>
  split
  ·exact⟨_,rfl,rfl,⟨_,mkRoot 3000,tr,_⟩,⟨c0,c1⟩,by simp only[E8,seval]<;>rfl,by simp only[E8,seval]<;>rfl,by simp only[E8,seval]<;>rfl,by simp only[E8,seval]<;>rfl,by simp only[E8,seval]<;>rfl⟩
  ·exact⟨_,rfl,rfl,⟨_,(nd v.ns p).block.root,tr,_⟩,⟨c0,c1⟩,by simp only[E8,seval]<;>rfl,by simp only[E8,seval]<;>rfl,by simp only[E8,seval]<;>rfl,by simp only[E8,seval]<;>rfl,by simp only[E8,seval]<;>rfl⟩
 case ra =>
 rintro⟨_,st⟩ ⟨rfl,r,hr,hI⟩
 dsimp only at hI
 simp only[Z8,seval,hI,T.td.ret];refine Qk (fun a=>a.1=.normal/\∃t':State,TD t' v Q R/\t'.store.cFg.kF.kZ=t.store.cFg.kF.kZ/\a.2.env 5=.ptr 5 0 0/\a.2.heap 5 0=some (.cells (aF t'))/\a.2.env 6=.ptr 6 0 0/\a.2.heap 6 0=some (.cells (bA r))) ?mb ?rb
 case mb =>
  split
  ·exact⟨_,rfl,rfl,{ t with store:={ t.store with cFg:={ t.store.cFg with kF:={ t.store.cFg.kF with lM:=(ol R).length }} },kU:=ov aA R },⟨⟨hs.jQ,hs.dO,hs.gW,hs.early,hs.bV,hs.tree,hs.tables,hs.eV,hs.tB,hs.nB,hs.nL,hs.nQ,hs.nE,hs.nO,hs.nT,hs.nn⟩,T.td.Cf,rfl,T.td.nQ,T.td.nR⟩,rfl,by simp only[E8,seval,hI]<;>rfl,by simp only[E8,seval,hI]<;>rfl,by simp only[E8,seval,hI]<;>rfl,by simp only[E8,seval,hI]<;>rfl⟩
  ·exact⟨_,rfl,rfl,t,T.td,rfl,by simp only[E8,seval,hI]<;>rfl,by simp only[E8,seval,hI]<;>rfl,by simp only[E8,seval,hI]<;>rfl,by simp only[E8,seval,hI]<;>rfl⟩
 case rb =>
 rintro⟨_,st⟩ ⟨rfl,t',T',hbk,hI⟩
 dsimp only at hI
 simp only[Z8,seval,hI];have aEV:=T'.ret
 refine cB (fun m st=>∃k:Nat,(st.env 5=.ptr 5 0 0/\st.heap 5 0=some (.cells (aF t'))/\st.env 6=.ptr 6 0 0/\st.heap 6 0=some (.cells (bA r))/\st.env 7=.v (.int .i64 k))/\(∀j:Nat,j<k->¬(((gx bB (ol R) (j:Int)).tagged.tag == r.tagged.tag)=true))/\k<=(ol R).length/\m=(ol R).length-k)
  (fun e st=>(e=.ret/\∃k:Nat,k<(ol R).length/\(((gx bB (ol R) (k:Int)).tagged.tag == r.tagged.tag)=true)/\(∀j:Nat,j<k->¬(((gx bB (ol R) (j:Int)).tagged.tag == r.tagged.tag)=true))/\st.env 4=.v (.bool true))\/(e=.exit 0/\(∀j:Nat,j<(ol R).length->¬(((gx bB (ol R) (j:Int)).tagged.tag == r.tagged.tag)=true))/\st.env 5=.ptr 5 0 0/\st.heap 5 0=some (.cells (aF t'))/\st.env 6=.ptr 6 0 0/\st.heap 6 0=some (.cells (bA r)))) ((ol R).length) ?step ?start ?rest
 case step =>
  rintro m st ⟨k,hI,hj,hk,hm⟩
  by_cases aZ:(k:Int)<(ol R).length
  ·have q0:(0:Int)<=k:=by omega
   have hw:IntKind.i64.wrap ((k:Int)+1)=((k+1:Nat):Int):=by rw[pM _ (by omega) (by omega)];omega
   by_cases hh:((gx bB (ol R) (k:Int)).tagged.tag == r.tagged.tag)=true
   ·apply oT (.ret)
    ·simp only[Z8,seval,hI,aZ,q0,aEV,aBM,hh];rfl
    ·exact .inl ⟨rfl,k,by omega,hh,hj,by simp only[E8,seval,aEV,aBM]⟩
   ·have hn:((gx bB (ol R) (k:Int)).tagged.tag == r.tagged.tag)=false:=by simpa using hh
    apply oN ((ol R).length-(k+1))
    ·simp only[Z8,seval,hI,aZ,q0,aEV,aBM,hn,hw];rfl
    ·exact⟨k+1,by simp only[E8,seval,hI],fun j h=>(Nat.lt_succ_iff_lt_or_eq.1 h).elim (hj j) fun e=>by subst e;exact hh,by omega,rfl⟩
  ·apply oT (.exit 0)
   ·simp only[Z8,seval,hI,aZ,aEV,aBM];rfl
   ·exact .inr ⟨rfl,fun j h=>hj j (by omega),by simp only[E8,seval,hI]⟩
 case start=>exact⟨0,by simp only[E8,seval,hI]<;>rfl,fun j h=>by omega,by omega,by omega⟩
 case rest =>
  rintro e st (⟨rfl,k,hk,hh,hj,h⟩|⟨rfl,hj,hI⟩)
  ·simp only[Z8,seval];exact⟨_,bT rfl (by simp only[E8,seval,h]<;>rfl) (by first|exact .v _|simp only[dN,h]),rfl⟩
  ·have aIO:∀y∈ol R,y.tagged.tag≠r.tagged.tag:=fun y hy e=>by
    obtain⟨i,hi,rfl⟩:=List.getElem_of_mem hy
    refine hj i hi ?_
    rw[RL hi];simpa using e
   have vI:0<=t'.store.cFg.kF.kZ/\t'.store.cFg.kF.kZ<18446744073709551616:=by rw[hbk];have:=hcb.back;omega
   have h71:=c71 T' T.rg.ne hB EY T.gi.pos T.qn T.rn nR T.tr.asc r ⟨hr.1,by omega⟩ vI aIO
   have h72:=c72 T' r
   obtain⟨R',T2⟩:=aI9 T' (by omega) r
   have kc:=k28 T2 Q R' rfl rfl
   obtain⟨u,hu⟩:∃u,Tt t' v.ns (ol R) r=u:=⟨_,rfl⟩
   rw[hu] at h71 h72 T2 kc;have eu:Mu u u.store (ov aA Q) (ov aA R')=u:=by unfold Mu;rw[<- T2.Cf,<- T2.ret]
   rw[eu] at kc;have fa:∀x∈[AV.agg (aF t'),AV.agg (bA r)],Flat x:=bH T'.flat (.agg _ (fN r))
   have ka:=kx h71 fa T2.flat
   have kb:=kx h72 fa T2.flat
   simp only[Z8,seval,hI,ka,kb,kc,aBM];exact⟨_,bT rfl (by simp only[E8,seval]<;>rfl) (by first|exact .v _|simp only[dN]),rfl⟩
end Go.Ab.Tryz
