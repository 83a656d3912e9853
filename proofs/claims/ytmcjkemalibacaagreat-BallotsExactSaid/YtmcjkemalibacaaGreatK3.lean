/-
  Part 3 of the proof: an evaluator of programs, its soundness, and what functions of this program compute.
-/
import Derived.Test.YtmcjkemalibacaaGreatK2
import Derived.Deep.Upon
set_option linter.all false
set_option maxRecDepth 20000
set_option maxHeartbeats 40000000
section
namespace Go.Ab
open Classical
section
variable {P:Program} {h0:Nat→Obj→Prop} {w0:World} {F:Gj} {nt:Nat} {ρ:Nat→Nat→Value} {st:St} {a:Act} {w:World} {K:Act→World→Prop} {Q:Exit→Act→World→Prop}
theorem Em {base T ty e:Nat} {ei:TypeInfo} {ez:Value} (hT:P.underlying T=some (.slice e)) (Be:P.info? e=some ei) (AF:ei.zero=some ez) (AA:ez.cells.size=ei.size) (wJ:0<ei.size)
 (vZ:base≤w.heap.size) {v:Value} {n:Nat} {xs:List Value} (zA:nF w base e ei.size v n xs)
 {p:Option Addr} {m c:Nat} {news:List Value} (hl:news.length=m * ei.size) (R7:news≠[]→∃ad,p=some ad∧∀(j:Nat) (u:Value),news[j]? = some u→w.cell? (ad.add j)=some u)
 (h1:∀u∈news,u.oneCell'=true) (h63:n+m≤maxLen) (hb:(n+m) * ei.bytes≤140737488355328) :
 ∃v' w',(Builtin.append_ #[T,T] ty #[v,.slice p m c]).run P w=.ok v' w'∧nF w' base e ei.size v' (n+m) (xs++news)∧w.grownBy w' (dF v)∧(∀b,dF v'=some b→dF v=some b∨w.heap.size≤b):=by
 by_cases hm:m=0
 ·subst hm;have hn:news=[]:=List.eq_nil_of_length_eq_zero (by simpa using hl)
  subst hn;refine⟨v,w, ?_,by simpa using zA,⟨rfl,rfl,rfl,Nat.le_refl _,fun _ _ _=>rfl⟩,fun b hb=>.inl hb⟩
  have hfc:∀(x:Value),(∃p,x=.slice p 0 c)→(Builtin.firstCells ei.size 0 x).run P w=.ok #[] w:=by
   rintro x ⟨p,rfl⟩
   cases p<;>simp[Builtin.firstCells,loadCells,loadCellsFrom]
  rcases zA.2 with ⟨q,rfl,rfl⟩|⟨g,cap,cur,rfl,_,_,Tr,_⟩
  ·cases q<;>simp[Builtin.append_,aX hT,run_sizeOf w Be,Builtin.lenOf,hfc _ ⟨p,rfl⟩,storeCells]
  ·simp[Builtin.append_,aX hT,run_sizeOf w Be,Builtin.lenOf,hfc _ ⟨p,rfl⟩,Tr,storeCells]
 ·have gR:news≠[]:=by
   intro h;subst h;have:0<m * ei.size:=Nat.mul_pos (by omega) wJ
   simp at hl
   omega
  obtain⟨ad,rfl,Xl⟩:=R7 gR
  have hlen:(xs++news).length=(n+m) * ei.size:=by rw[List.length_append,zA.1,hl,Nat.add_mul]
  have grow:∀(ga:Addr) (cap:Nat),cap<n+m→(∀(j:Nat) (u:Value),xs[j]? = some u→w.cell? (ga.add j)=some u)→∃v' w',(Builtin.append_ #[T,T] ty #[.slice (some ga) n cap,.slice (some ad) m c]).run P w=.ok v' w' ∧
   nF w' base e ei.size v' (n+m) (xs++news)∧w.grownBy w' none∧∀b,dF v'=some b→w.heap.size≤b:=by
   intro ga cap YH holds;have hr:=run_append_grow (P:=P) w T ty e ei ez hT Be AF ga n cap xs zA.1 holds ad m c news hl Xl (by omega) (by simp only[maxLen] at h63;omega) (growslice_fits (by omega) hb)
   have hge:=grownCap_ge w (n+m) cap e
   have aFY:=grownCap_le_maxLen w (n+m) cap e h63
   refine⟨_,_,hr,⟨hlen,.inr ⟨w.heap.size,_,_,rfl,vZ,heap_alloc_new w.drew _,hge,aFY, ?_, ?_,by omega⟩⟩,⟨rfl,rfl,rfl,by simp,fun k hk _=>heap_alloc_old w.drew _ hk⟩,fun b hb=>?_⟩
   ·simp only[Array.size_append,List.size_toArray,size_zeroCells,AA,zA.1,hl,← Nat.add_mul];congr 1
    omega
   ·simp only[Array.toList_append,List.append_assoc];rw[← List.append_assoc,← hlen];exact List.take_left
   ·rw[jW (by omega)] at hb
    simp at hb
    omega
  rcases zA.2 with ⟨q,rfl,rfl⟩|⟨g,cap,cur,rfl,hbg,hg,Tr,y8,AS,htake,oM⟩
  ·have hx:xs=[]:=List.eq_nil_of_length_eq_zero (by simpa using zA.1)
   cases q with
   | none =>
     subst hx;obtain⟨v',w',hr,ho,hgr,_⟩:=run_append_own (P:=P) w w.heap.size T ty e ei ez ei.size ei.bytes hT Be AF rfl rfl AA wJ (.slice none 0 0) 0 [] (World.ownsRow_nil w _ e ei.size)
      ad m c news hl Xl h1 (by simpa using h63) (by simpa using hb) (Nat.le_refl _)
     exact⟨v',w',hr,yB (Gi ho) vZ,hgr,fun b hb=>.inr ((Bz (Gi ho) b hb).1)⟩
   | some ga =>
     obtain⟨v',w',hr,ho,hgr,nA⟩:=grow ga 0 (by omega) (by rw[hx];simp)
     exact⟨v',w',hr,ho,by rw[pH];exact hgr,fun b hb=>.inr (nA b hb)⟩
  ·by_cases YH:n+m≤cap
   ·have aB8:n * ei.size+news.length≤cur.size:=by rw[hl,AS,← Nat.add_mul];exact Nat.mul_le_mul_right _ YH
    have hr:=run_append_room (P:=P) w T ty e ei hT Be g n cap cur hg ad m c news hl Xl h1 YH aB8
    refine⟨_,_,hr,⟨hlen,.inr ⟨g,cap,_,rfl,hbg,setRow_heap w g cur _ e _ hg,YH,y8, ?_, ?_,oM⟩⟩,⟨rfl,rfl,rfl,by simp,fun k _ hk=>setRow_other w g k _ (fun e=>hk (by rw[jW oM,e]))⟩,fun b hb=>.inl (by rw[jW oM] at hb ⊢;exact hb)⟩
    ·simp only[List.size_toArray,List.length_append,List.length_take,List.length_drop,Array.length_toList];omega
    ·rw[htake,← hlen];exact List.take_left
   ·have holds:∀(j:Nat) (u:Value),xs[j]? = some u→w.cell? ((⟨g,0,none⟩:Addr).add j)=some u:=fun j u hu=>by
     rw[kM,Nat.zero_add,cell_of_row w g j cur e (0,0) hg];rw[← htake,List.getElem?_take] at hu;split at hu
     ·simpa using hu
     ·cases hu
    obtain⟨v',w',hr,ho,hgr,nA⟩:=grow ⟨g,0,none⟩ cap (by omega) holds
    exact⟨v',w',hr,ho,⟨hgr.os,hgr.tape,hgr.output,hgr.size,fun k hk _=>hgr.block k hk (by simp)⟩,fun b hb=>.inr (nA b hb)⟩
theorem kY (dst:Option Nat) (v:AV) (d:Nat) (x:mV):qW.apply { dst:=dst,val:=v,new:=some (d,[x])} st=(st.new d x).put dst v:=by
 simp only[qW.apply,Vj]
theorem Ra (dst:Option Nat) (v:AV) (s g d:Nat) (z:Option mV) (x:mV):qW.apply { dst:=dst,val:=v,dP:=some (s,g,z),new:=some (d,[x])} st=((st.jV s g z).new d x).put dst v:=by
 simp only[qW.apply,Vj]
theorem GY (S:kE F h0 w0 nt ρ st a w) {T ty d:Nat} {s x:AV} {u:Option (Nat × Nat)} {r:mV} {sv xv:Value} (hd:d<nt) (h:dE P st T s x=some (u,r))
 (hs:cM (ctx h0 w0 ρ st w) s sv) (hx:cM (ctx h0 w0 ρ st w) x xv) :
 ∃v w' nD,(Builtin.append_ #[T,T] ty #[sv,xv]).run P w=.ok v w' ∧
  kE F h0 w0 nt nD (qW.apply { dst:=some d,val:=.own d (st.aQ d),dP:=u.map fun p=>(p.1,p.2,none),new:=some (d,[r])} st) (a.put (some d) v) w':=by
 unfold dE at h;cases Qt:dQ P T with
 | none=>simp[Qt] at h
 | some t =>
   obtain⟨e,sz,by_⟩:=t
   simp only[Qt] at h;obtain⟨ei,ez,hT,Be,AF,rfl,AA,rfl,wJ⟩:=jT Qt
   cases hv:aT st x with
   | none=>simp[hv] at h
   | some mn =>
     obtain⟨m,news⟩:=mn
     simp only[hv] at h;split at h
     ·rename_i hlen;obtain⟨p,c,rfl,R7⟩:=rU S hv hx
      have R9:∃nv:List Value,fG (ctx h0 w0 ρ st w) news nv∧(nv≠[]→∃ad,p=some ad∧∀(j:Nat) (u:Value),nv[j]? = some u→w.cell? (ad.add j)=some u):=by
       by_cases gR:news=[]
       ·subst gR;exact⟨[],.nil _,fun h=>absurd rfl h⟩
       ·obtain⟨b,off,arr,T',fr,hp,hb,hc⟩:=R7 gR
        refine⟨_,hc,fun _=>⟨_,hp,fun j u hu=>?_⟩⟩
        rw[kM,cell_of_row w b (off+j) arr T' fr hb];rw[List.getElem?_take] at hu;split at hu
        ·rw[List.getElem?_drop] at hu;simpa using hu
        ·cases hu
      obtain⟨nv,Tr,mH⟩:=R9
      have RF:nv.length=m * ei.size:=by rw[← Tr.len,hlen]
      have Pz:∀u∈nv,u.oneCell'=true:=fun u hu=>by
       obtain⟨j,hj,rfl⟩:=List.getElem_of_mem hu
       exact Tr.one j _ (by simp)
      split at h
      ·split at h
       ·rename_i hc;simp only[Option.some.injEq,Prod.mk.injEq] at h;obtain⟨rfl,rfl⟩:=h
        have:=iC hs
        subst this;obtain⟨v',w',hr,ho,hg,XG⟩:=Em (P:=P) (w:=w) (base:=w.heap.size) (ty:=ty) hT Be AF AA wJ (Nat.le_refl _) (Gi (World.ownsRow_nil w _ e ei.size)) (p:=p) (c:=c) RF mH Pz (by simpa using hc.2) (by simpa using hc.1)
        simp only[Nat.zero_add,List.nil_append] at ho;obtain⟨nD,S'⟩:=S.newRow d hd hg e ei.size m news nv v' ho Tr
        exact⟨v',w',nD,hr,by rw[Option.map_none,kY];exact S'⟩
       ·cases h
      ·rename_i s' g'
       cases he:st.heap s' g' with
       | none=>simp[he] at h
       | some e' =>
         cases e' with
         | row e2 sz2 n cs =>
           simp only[he] at h;split at h
           ·rename_i hc;obtain⟨rfl,rfl,hb,h63⟩:=hc
            simp only[Option.some.injEq,Prod.mk.injEq] at h;obtain⟨rfl,rfl⟩:=h
            obtain⟨_,_,xs,ho,AS⟩:=S.rT s' g' _ he
            cases hs with
            | own _ _ hg1 ho1 =>
              obtain⟨v',w',hr,ho',hg,XG⟩:=Em (P:=P) (w:=w) (ty:=ty) hT Be AF AA wJ S.ext.size ho (p:=p) (c:=c) RF mH Pz h63 hb
              obtain⟨S',k,oL⟩:=S.I0 he hg d (.row e2 ei.size (n+m) (cs++news)) v' (sK ho') XG (fun C k=>⟨xs++nv,ho',(AS.app Tr).le k⟩)
              have aZ:st.aQ d<(ctx h0 w0 (tC ρ d (st.aQ d) v') ((st.jV s' g' none).new d (.row e2 ei.size (n+m) (cs++news))) w').aQ d:=by simp[ctx,St.new,St.jV]
              have kK:(ctx h0 w0 (tC ρ d (st.aQ d) v') ((st.jV s' g' none).new d (.row e2 ei.size (n+m) (cs++news))) w').ρ d (st.aQ d)=v':=oL
              have:=cM.own (C:=ctx h0 w0 (tC ρ d (st.aQ d) v') ((st.jV s' g' none).new d (.row e2 ei.size (n+m) (cs++news))) w') d (st.aQ d) aZ (by rw[kK];exact sK ho')
              rw[kK] at this;have hS:=S'.put (some d) (fun t ht=>by cases ht;exact hd) this
              exact⟨v',w',_,hr,by rw[Option.map_some,Ra];exact hS⟩
           ·cases h
         | _=>simp[he] at h
      ·rename_i n cs;split at h
       ·rename_i hc;obtain⟨c1,c2,c3,c4⟩:=hc
        simp only[Option.some.injEq,Prod.mk.injEq] at h;obtain⟨rfl,rfl⟩:=h
        have main:∀(q:Option Addr) (ys:List Value),sv=.slice q n n→fG (ctx h0 w0 ρ st w) cs ys→(ys≠[]→∃ad,q=some ad∧∀(j:Nat) (u:Value),ys[j]? = some u→w.cell? (ad.add j)=some u) →
         ∃v' w',(Builtin.append_ #[T,T] ty #[sv,.slice p m c]).run P w=.ok v' w'∧nF w' w.heap.size e ei.size v' (n+m) (ys++nv)∧w.grownBy w' none:=by
         rintro q ys rfl Ts hcell'
         have hyl:ys.length=n * ei.size:=by rw[← Ts.len,c1]
         by_cases hm:m=0
         ·have hn0:n=0:=by omega
          subst hm;subst hn0;have hy0:ys=[]:=List.eq_nil_of_length_eq_zero (by simpa using hyl)
          have hn0:nv=[]:=List.eq_nil_of_length_eq_zero (by simpa using RF)
          subst hy0;subst hn0;obtain⟨v',w',hr,ho,hg,_⟩:=Em (P:=P) (w:=w) (base:=w.heap.size) (ty:=ty) (v:=.slice q 0 0) (n:=0) (xs:=[]) hT Be AF AA wJ (Nat.le_refl _) ⟨by simp,.inl ⟨q,rfl,rfl⟩⟩ (p:=p) (c:=c) RF mH (by simp) c4 c3
          rw[pH] at hg;exact⟨v',w',hr,ho,hg⟩
         ·have gR:nv≠[]:=by
           intro h;rw[h] at RF;have:0<m * ei.size:=Nat.mul_pos (by omega) wJ
           simp at RF
           omega
          obtain⟨ad,rfl,Xl⟩:=mH gR
          have hlen':(ys++nv).length=(n+m) * ei.size:=by rw[List.length_append,hyl,RF,Nat.add_mul]
          cases q with
          | none =>
            have hy0:ys=[]:=by
             by_cases h:ys=[]
             ·exact h
             ·obtain⟨ad,h1,_⟩:=hcell' h
              cases h1
            subst hy0;have hn0:n=0:=by
             rcases Nat.eq_zero_or_pos n with h|h
             ·exact h
             ·have:=Nat.mul_pos h wJ
              simp at hyl
              omega
            subst hn0;obtain⟨v',w',hr,ho,hg,_⟩:=Em (P:=P) (w:=w) (base:=w.heap.size) (ty:=ty) (v:=.slice none 0 0) (n:=0) (xs:=[]) hT Be AF AA wJ (Nat.le_refl _) ⟨by simp,.inl ⟨none,rfl,rfl⟩⟩ (p:=some ad) (c:=c) RF mH Pz c4 c3
            rw[pH] at hg;exact⟨v',w',hr,ho,hg⟩
          | some ga =>
            have holds:∀(j:Nat) (u:Value),ys[j]? = some u→w.cell? (ga.add j)=some u:=fun j u hu=>by
             have hne':ys≠[]:=by intro h;rw[h] at hu;simp at hu
             obtain⟨ad',h1,h2⟩:=hcell' hne'
             cases h1
             exact h2 j u hu
            have hr:=run_append_grow (P:=P) w T ty e ei ez hT Be AF ga n n ys hyl holds ad m c nv RF Xl (by omega) (by simp only[maxLen] at c4;omega) (growslice_fits (by omega) c3)
            have hge:=grownCap_ge w (n+m) n e
            have aFY:=grownCap_le_maxLen w (n+m) n e c4
            refine⟨_,_,hr,⟨hlen',.inr ⟨w.heap.size,_,_,rfl,Nat.le_refl _,heap_alloc_new w.drew _,hge,aFY, ?_, ?_,by omega⟩⟩,⟨rfl,rfl,rfl,by simp,fun k hk _=>heap_alloc_old w.drew _ hk⟩⟩
            ·simp only[Array.size_append,List.size_toArray,size_zeroCells,AA,hyl,RF,← Nat.add_mul];congr 1
             omega
            ·simp only[Array.toList_append,List.append_assoc];rw[← List.append_assoc,← hlen'];exact List.take_left
        have fin:∀(ys:List Value),fG (ctx h0 w0 ρ st w) cs ys→(∃v' w',(Builtin.append_ #[T,T] ty #[sv,.slice p m c]).run P w=.ok v' w'∧nF w' w.heap.size e ei.size v' (n+m) (ys++nv)∧w.grownBy w' none) →
         ∃v w' nD,(Builtin.append_ #[T,T] ty #[sv,.slice p m c]).run P w=.ok v w' ∧
          kE F h0 w0 nt nD (qW.apply { dst:=some d,val:=.own d (st.aQ d),dP:=(none:Option (Nat × Nat)).map fun p=>(p.1,p.2,none),new:=some (d,[.row e ei.size (n+m) (cs++news)])} st) (a.put (some d) v) w':=by
         rintro ys Ts ⟨v',w',hr,ho,hg⟩
         obtain⟨nD,S'⟩:=S.newRow d hd hg e ei.size (n+m) (cs++news) (ys++nv) v' ho (Ts.app Tr)
         exact⟨v',w',nD,hr,by rw[Option.map_none,kY];exact S'⟩
        cases hs with
        | cl0 n q=>exact fin [] (.nil _) (main q [] rfl (.nil _) (by simp))
        | cl n cs b off arr T' fr hb hle hr Sf =>
          have Bf:fG (ctx h0 w0 ρ st w) cs ((arr.toList.drop off).take cs.length):=by
           refine⟨by simp;omega,fun i x y hx hy=>?_,fun i y hy=>?_⟩
           ·have hi:=(List.getElem?_eq_some_iff.1 hx).1
            rw[List.getElem?_take,if_pos hi,List.getElem?_drop] at hy;exact hr i x y hx (by simpa using hy)
           ·rw[List.getElem?_take] at hy;split at hy
            ·rename_i hi;rw[List.getElem?_drop] at hy;exact Sf i y hi (by simpa using hy)
            ·cases hy
          refine fin _ Bf (main _ _ rfl Bf fun _=>⟨⟨b,off,none⟩,rfl,fun j u hu=>?_⟩)
          rw[kM,cell_of_row w b (off+j) arr T' fr hb.1];rw[List.getElem?_take] at hu;split at hu
          ·rw[List.getElem?_drop] at hu;simpa using hu
          ·cases hu
       ·cases h
      ·cases h
     ·cases h
theorem AW (S:kE F h0 w0 nt ρ st a w) {T ty:Nat} {s x:AV} {u:Nat × Nat × mV × Nat} {sv xv:Value} (h:mX P st T s x=some u)
 (hs:cM (ctx h0 w0 ρ st w) s sv) (hx:cM (ctx h0 w0 ρ st w) x xv) :
 ∃v w',(Builtin.append_ #[T,T] ty #[sv,xv]).run P w=.ok v w'∧kE F h0 w0 nt ρ (st.jV u.1 u.2.1 (some u.2.2.1)) a w' ∧
  cM (ctx h0 w0 ρ (st.jV u.1 u.2.1 (some u.2.2.1)) w') (.vw u.1 u.2.1 0 u.2.2.2) v:=by
 unfold mX at h;split at h
 ·rename_i e sz by_ m news s' g' k Qt hv
  obtain⟨ei,ez,hT,Be,AF,rfl,AA,rfl,wJ⟩:=jT Qt
  cases he:st.heap s' g' with
  | none=>simp[he] at h
  | some en =>
    cases en with
    | row e' sT n cs =>
      simp only[he] at h;split at h
      ·rename_i hc;obtain⟨rfl,rfl,hlen,aB8⟩:=hc
       simp only[Option.some.injEq] at h;subst h;obtain⟨p,c,rfl,R7⟩:=rU S hv hx
       have R9:∃nv:List Value,fG (ctx h0 w0 ρ st w) news nv∧(nv≠[]→∃ad,p=some ad∧∀(j:Nat) (u:Value),nv[j]? = some u→w.cell? (ad.add j)=some u):=by
        by_cases gR:news=[]
        ·subst gR;exact⟨[],.nil _,fun h=>absurd rfl h⟩
        ·obtain⟨b,off,arr,T',fr,hp,hb,hc⟩:=R7 gR
         refine⟨_,hc,fun _=>⟨_,hp,fun j u hu=>?_⟩⟩
         rw[kM,cell_of_row w b (off+j) arr T' fr hb];rw[List.getElem?_take] at hu;split at hu
         ·rw[List.getElem?_drop] at hu;simpa using hu
         ·cases hu
       obtain⟨nv,Tr,mH⟩:=R9
       have RF:nv.length=m * ei.size:=by rw[← Tr.len,hlen]
       have Pz:∀u∈nv,u.oneCell'=true:=fun u hu=>by
        obtain⟨j,hj,rfl⟩:=List.getElem_of_mem hu
        exact Tr.one j _ (by simp)
       obtain⟨_,_,xs,ho,Bf⟩:=S.rT s' g' _ he
       cases hs with
       | vw _ _ _ _ b cap hg hb mG yA =>
         have nA:dF (ρ s' g')=some b:=hb
         rcases ho.2 with ⟨q,kK,hn⟩|⟨b',AE,cur,kK,vZ,hh,z6,y8,AS,ht,oM⟩
         ·rw[kK,pH] at nA;cases nA
         ·have wG:b'=b:=by rw[kK,jW oM] at nA;simpa using nA
          subst wG;have hcc:cap=AE:=yA rfl _ _ _ kK
          subst hcc;have hkm:(k+m) * ei.size≤n * ei.size:=Nat.mul_le_mul_right _ aB8
          have hnn:n * ei.size≤cap * ei.size:=Nat.mul_le_mul_right _ z6
          rw[Nat.add_mul] at hkm;have hcl':cur.toList.length=cur.size:=rfl
          have pN:(Builtin.append_ #[T,T] ty #[.slice (some ⟨b',0,none⟩) k cap,.slice p m c]).run P w=.ok (.slice (some ⟨b',0,none⟩) (k+m) cap) (w.setRow b' (cur.toList.take (k * ei.size)++nv++cur.toList.drop (k * ei.size+nv.length)).toArray):=by
           by_cases gR:nv=[]
           ·have hm:m=0:=by
             rw[gR] at RF;rcases Nat.eq_zero_or_pos m with h|h
             ·exact h
             ·have:=Nat.mul_pos h wJ
              simp at RF
              omega
            subst hm;have hfc:∀(x:Value),(∃p,x=.slice p 0 c)→(Builtin.firstCells ei.size 0 x).run P w=.ok #[] w:=by
             rintro x ⟨p,rfl⟩
             cases p<;>simp[Builtin.firstCells,loadCells,loadCellsFrom]
            have e0:(cur.toList.take (k * ei.size)++nv++cur.toList.drop (k * ei.size+nv.length)).toArray=cur:=by
             rw[gR];simp
            rw[e0,setRow_self w b' cur e' (0,0) hh];have hkc:k≤cap:=by omega
            simp[Builtin.append_,aX hT,run_sizeOf w Be,Builtin.lenOf,hfc _ ⟨p,rfl⟩,storeCells,hkc]
           ·obtain⟨ad,rfl,Xl⟩:=mH gR
            exact run_append_room (P:=P) w T ty e' ei hT Be b' k cap cur hh ad m c nv RF Xl Pz (by omega) (by omega)
          have hxl:=ho.1
          have hcsl:=Bf.len
          have S':=S.store (e':=.row e' ei.size n (cs.take (k * ei.size)++news++cs.drop (k * ei.size+m * ei.size))) (w':=w.setRow b' (cur.toList.take (k * ei.size)++nv++cur.toList.drop (k * ei.size+nv.length)).toArray) he nA ⟨rfl,rfl,rfl,by simp,fun j _ hj=>setRow_other w b' j _ (fun e=>hj (by rw[e]))⟩ (fun C kC=>by
           refine⟨xs.take (k * ei.size)++nv++xs.drop (k * ei.size+m * ei.size),⟨by simp;omega,.inr ⟨b',cap,_,kK,vZ,setRow_heap w b' cur _ e' (0,0) hh,z6,y8,by simp;omega, ?_,oM⟩⟩,(((Bf.take _).app Tr).app (Bf.drop _)).le kC⟩
           simp only
           rw[← ht,RF];have l1:(cur.toList.take (k * ei.size)++nv).length=k * ei.size+m * ei.size:=by simp;omega
           rw[List.take_append,l1,List.take_of_length_le (by omega),List.drop_take,List.take_take,Nat.min_eq_left (by omega)])
          exact⟨_,_,pN,S',.vw s' g' 0 _ b' cap hg hb (by show k+m≤cap;omega) (fun _=>yA rfl)⟩
      ·cases h
    | _=>simp[he] at h
 ·cases h
theorem NK (S:kE F h0 w0 nt ρ st a w) {T ty:Nat} {x:AV} {u:Option (Nat × Nat × mV)} {xv:Value} (h:Bb P st T x=some u) (hx:cM (ctx h0 w0 ρ st w) x xv) :
 ∃w',(Builtin.clear_ #[T] ty #[xv]).run P w=.ok (.tuple #[]) w'∧kE F h0 w0 nt ρ (match u with|some p=>st.jV p.1 p.2.1 (some p.2.2)|none=>st) a w':=by
 unfold Bb at h;split at h
 ·rename_i e sz by_ s g o k Qt _;obtain⟨ei,ez,hT,Be,AF,rfl,AA,rfl,wJ⟩:=jT Qt
  split at h
  ·rename_i z e' sT n cs hz he
   split at h
   ·rename_i hc;obtain⟨rfl,rfl,aB8⟩:=hc
    simp only[Option.some.injEq] at h;subst h;obtain⟨i',zv,Aa,KE,rfl,I2⟩:=yD hz
    rw[Be] at Aa
    cases Aa
    rw[AF] at KE;cases KE
    obtain⟨_,_,xs,ho,Bf⟩:=S.rT s g _ he
    cases hx with
    | vw _ _ _ _ b cap hg hb mG yA =>
      have nA:dF (ρ s g)=some b:=hb
      rcases ho.2 with ⟨q,kK,hn⟩|⟨b',AE,cur,kK,vZ,hh,z6,y8,AS,ht,oM⟩
      ·rw[kK,pH] at nA;cases nA
      ·have wG:b'=b:=by rw[kK,jW oM] at nA;simpa using nA
       subst wG;have hxl:=ho.1
       have hcsl:=Bf.len
       have hnn:n * ei.size≤AE * ei.size:=Nat.mul_le_mul_right _ z6
       have hcl':cur.toList.length=cur.size:=rfl
       have UF:(Builtin.zeroCells ez.cells k).toList=(List.range k).flatMap fun _=>ez.cells.toList:=by
        unfold Builtin.zeroCells;rw[← Hk]
       have hzl:((List.range k).flatMap fun _=>ez.cells.toList).length=k * ei.size:=by
        rw[← UF,Array.length_toList,size_zeroCells,AA]
       have hz1':∀v∈(List.range k).flatMap fun _=>ez.cells.toList,v.oneCell'=true:=fun v hv=>by
        obtain⟨_,_,hv⟩:=List.mem_flatMap.1 hv
        exact I2 v hv
       have rH:=run_storeCells_at P b' o e' ((List.range k).flatMap fun _=>ez.cells.toList) 0 cur w hh (by rw[hzl];omega) hz1'
       simp only[Nat.add_zero] at rH;have S':=S.store (e':=.row e' ei.size n (cs.take o++((List.range k).flatMap fun _=>ez.cells.toList.map .v)++cs.drop (o+k * ei.size))) (w':=w.setRow b' (cur.toList.take o++((List.range k).flatMap fun _=>ez.cells.toList)++cur.toList.drop (o+((List.range k).flatMap fun _=>ez.cells.toList).length)).toArray) he nA ⟨rfl,rfl,rfl,by simp,fun j _ hj=>setRow_other w b' j _ (fun e=>hj (by rw[e]))⟩ (fun C kC=>by
        refine⟨xs.take o++((List.range k).flatMap fun _=>ez.cells.toList)++xs.drop (o+k * ei.size),⟨by rw[List.length_append,List.length_append,hzl];simp;omega,.inr ⟨b',AE,_,kK,vZ,setRow_heap w b' cur _ e' (0,0) hh,z6,y8,by rw[List.size_toArray,List.length_append,List.length_append,hzl];simp;omega, ?_,oM⟩⟩,(((Bf.take _).le kC).app (Jf I2 k)).app ((Bf.drop _).le kC)⟩
        simp only
        rw[← ht,hzl];have l1:(cur.toList.take o++((List.range k).flatMap fun _=>ez.cells.toList)).length=o+k * ei.size:=by rw[List.length_append,hzl];simp;omega
        rw[List.take_append,l1,List.take_of_length_le (by omega),List.drop_take,List.take_take,Nat.min_eq_left (by omega)])
       refine⟨_, ?_,S'⟩
       have hzv:(zeroValue e').run P w=.ok ez w:=by simp[zeroValue,typeInfo,Be,AF]
       cases k with
       | zero =>
         have e0:(cur.toList.take o++((List.range 0).flatMap fun _=>ez.cells.toList)++cur.toList.drop (o+((List.range 0).flatMap fun _=>ez.cells.toList).length)).toArray=cur:=by simp
         rw[e0,setRow_self w b' cur e' (0,0) hh];simp[Builtin.clear_,aX hT]
       | succ k =>
         have hst2:(storeCells ⟨b',o,none⟩ (Builtin.zeroCells ez.cells (k+1)).toList).run P w=.ok () (w.setRow b' (cur.toList.take o++((List.range (k+1)).flatMap fun _=>ez.cells.toList)++cur.toList.drop (o+((List.range (k+1)).flatMap fun _=>ez.cells.toList).length)).toArray):=by rw[UF];exact rH
         obtain⟨W,hW⟩:∃W,w.setRow b' (cur.toList.take o++((List.range (k+1)).flatMap fun _=>ez.cells.toList)++cur.toList.drop (o+((List.range (k+1)).flatMap fun _=>ez.cells.toList).length)).toArray=W:=⟨_,rfl⟩
         rw[hW] at hst2;rw[hW];simp[Builtin.clear_,aX hT,hzv,hst2]
   ·cases h
  ·cases h
 ·rename_i t cs Qt _;simp only[Option.some.injEq] at h;subst h;obtain⟨e,sz,by_⟩:=t
  obtain⟨ei,ez,hT,_⟩:=jT Qt
  refine⟨w, ?_,S⟩
  cases hx with
  | FB n cap p mG=>cases p<;>simp[Builtin.clear_,aX hT]
  | sl n cs b off cap arr T fr mG hb hle hr h1=>simp[Builtin.clear_,aX hT]
 ·rename_i t Qt _;simp only[Option.some.injEq] at h;subst h;obtain⟨e,sz,by_⟩:=t
  obtain⟨ei,ez,hT,_⟩:=jT Qt
  have:=iC hx
  subst this;exact⟨w,by simp[Builtin.clear_,aX hT],S⟩
 ·cases h
theorem UG {C:Ctx} {x:AV} {v:Value} {g:Nat} {oK:List AV} (h:EX x=some (g,oK)) (hr:cM C x v):∃cv,v=.func (.func g) #[] cv∧lC C oK cv.toList:=by
 unfold EX at h;split at h
 ·split at h
  ·rename_i hc;obtain⟨rfl,rfl⟩:=hc
   simp only[Option.some.injEq,Prod.mk.injEq] at h;obtain⟨rfl,rfl⟩:=h
   have:=iC hr
   subst this;exact⟨#[],rfl,.nil C⟩
  ·cases h
 ·simp only[Option.some.injEq,Prod.mk.injEq] at h;obtain⟨rfl,rfl⟩:=h
  cases hr with
  | Fp f cs a hl hr=>exact⟨a,rfl,by simpa using hl,fun i x y hx hy=>hr i x y hx (by simpa using hy)⟩
 ·cases h
variable [Ext]
theorem AX (S:kE F h0 w0 nt ρ st a w) {call:Nat→List AV→Option AV} (jY:qK P call) {o:Oper} {c:Call} (pQ:o.op=.call c) {e:qW}
 (h:iU P call c o.dst st=some e) (hd:∀d,o.dst=some d→d<nt)
 (hK:∀nD a' w',kE F h0 w0 nt nD (e.apply st) a' w'→K a' w'):o.wp P a w K Q:=by
 have sR:lC (ctx h0 w0 ρ st w) (c.args.toList.map st.ev) (c.args.toList.map a.eval):=lC.map _ _ _ fun p _=>S.ev p
 unfold iU at h;split at h
 ·rename_i f hf;have fin:∀g cv,a.eval f=.func (.func g) #[] cv→(Hh P g∧Calls P g (c.args.map a.eval++cv) w fun en w'=>∃v,en=.returned v∧K (a.put o.dst v) w')→o.wp P a w K Q:=by
   rintro g cv hv ⟨⟨fn,aFZ,S4,S5⟩,UH⟩
   have hnb:fn.body.isNone=false:=by
    cases hb:fn.body<;>simp[hb] at S5 ⊢
   have Pz : ¬ fn.name = "runtime.NumGoroutine" := by simpa using S4
   have hn2:¬fn.body=none:=by intro h;simp[h] at hnb
   have pN:(execOp a.eval o).run P w=.ok (.enter g (c.args.map a.eval++cv)) w:=by
    simp[execOp,pQ,resolve,hf,hv,Deferred.ofValue,invoke,callFunc,aFZ,Pz,hn2]
   unfold Oper.wp;rw[pN,Oper.upon_enter];refine UH.mono ?_
   rintro en w' ⟨v,rfl,hk⟩
   exact hk
  have gen:∀g oK,EX (st.ev f)=some (g,oK)→aN call g (c.args.toList.map st.ev++oK) st o.dst=some e→o.wp P a w K Q:=by
   intro g oK hfn h;obtain⟨cv,hv,hcaps⟩:=UG hfn (S.ev f)
   have fU:lC (ctx h0 w0 ρ st w) (c.args.toList.map st.ev++oK) (c.args.map a.eval++cv).toList:=by
    simpa using sR.app hcaps
   exact fin g cv hv (El S jY h fU hd hK)
  unfold mY at h;split at h
  ·rename_i g;split at h
   ·refine fin g #[] rfl ?_
    exact GW S jY h (by simpa using sR) hd hK
   ·split at h
    ·refine fin g #[] rfl ?_
     exact AU S jY h (by simpa using sR) hd hK
    ·exact gen g [] rfl (by simpa using h)
  ·split at h
   ·rename_i g oK hfn;exact gen g oK hfn h
   ·cases h
 ·rename_i hf;split at h
  ·rename_i x T hx hT;cases hs:dQ P T with
   | none=>simp[hs] at h
   | some t =>
     cases hv:aT st (st.ev x) with
     | none=>simp[hs,hv] at h
     | some nc =>
       obtain⟨n,cs⟩:=nc
       simp only[hs,hv,Option.some.injEq] at h;subst h;obtain⟨p,cap,Fv,_⟩:=rU S hv (S.ev x)
       obtain⟨e,sz,by_⟩:=t
       obtain⟨ei,ez,hu,_⟩:=jT hs
       have ha:c.args=#[x]:=by apply Array.ext';simpa using hx
       have ht:c.argTypes=#[T]:=by apply Array.ext';simpa using hT
       refine upon_value (v:=.int .i64 n) ?_ (hK ρ _ w (S.put o.dst hd (.v _)))
       simp[execOp,pQ,resolve,hf,ha,ht,invoke,builtin,Builtin.len_,Fv,aX hu,goInt]
  ·cases h
 ·rename_i hf;split at h
  ·rename_i x y hx;split at h
   ·rename_i k p k' q h1 h2
    simp only[Option.some.injEq] at h;subst h;have e1:=S.ev x
    rw[h1] at e1;have e1:=iC e1
    have e2:=S.ev y
    rw[h2] at e2;have e2:=iC e2
    have ha:c.args=#[x,y]:=by apply Array.ext';simpa using hx
    refine upon_value (v:=.int k (if q<p then q else p)) ?_ (hK ρ _ w (S.put o.dst hd (.v _)))
    simp[execOp,pQ,resolve,hf,ha,invoke,builtin,Builtin.min_,Builtin.min2,e1,e2]
   ·cases h
  ·cases h
 ·rename_i hf;split at h
  ·rename_i x y hx;split at h
   ·rename_i k p k' q h1 h2
    simp only[Option.some.injEq] at h;subst h;have e1:=S.ev x
    rw[h1] at e1;have e1:=iC e1
    have e2:=S.ev y
    rw[h2] at e2;have e2:=iC e2
    have ha:c.args=#[x,y]:=by apply Array.ext';simpa using hx
    refine upon_value (v:=.int k (if q > p then q else p)) ?_ (hK ρ _ w (S.put o.dst hd (.v _)))
    simp[execOp,pQ,resolve,hf,ha,invoke,builtin,Builtin.max_,Builtin.max2,e1,e2]
   ·cases h
  ·cases h
 ·rename_i hf;cases kP:o.dst with
  | none=>simp[kP,cH] at h
  | some d =>
  simp only[kP,cH] at h;split at h
  ·rename_i s x T T' hx hT
   split at h
   ·rename_i hTT;subst hTT;split at h
    ·cases mQ:mX P st T (st.ev s) (st.ev x) with
     | none=>simp[mQ] at h
     | some u =>
     simp only[mQ,Option.map_some,Option.some.injEq] at h;subst h;obtain⟨v,w',hr,S',hv⟩:=AW (ty:=o.type) S mQ (S.ev s) (S.ev x)
     have ha:c.args=#[s,x]:=by apply Array.ext';simpa using hx
     have ht:c.argTypes=#[T,T]:=by apply Array.ext';simpa using hT
     rw[kP] at hd;have hk:=hK ρ _ w' (S'.put (some d) hd hv)
     unfold Oper.wp;simp only[execOp,pQ,resolve,hf,ha,ht,invoke,builtin];simp[hr]
     unfold Oper.upon;rw[kP];exact hk
    split at h
    ·rename_i hpa;obtain⟨_,hs0,Qt,hv'⟩:=hpa
     obtain⟨⟨_,cs⟩,hv,hv0⟩:=Option.map_eq_some_iff.1 hv'
     simp only at hv0
     subst hv0;simp only[Option.some.injEq] at h;subst h;have e1:=S.ev s
     rw[hs0] at e1;have e1:=iC e1
     obtain⟨q,c',hxv,_⟩:=rU S hv (S.ev x)
     cases hsi:dQ P T with
     | none=>rw[hsi] at Qt;cases Qt
     | some t =>
     obtain⟨e,sz,by_⟩:=t
     obtain⟨ei,ez,hT',Be,_⟩:=jT hsi
     have hz:∀w:World,(Builtin.firstCells ei.size 0 (.slice q 0 c')).run P w=.ok ([]:List Value).toArray w:=fun w=>by cases q<;>simp[Builtin.firstCells,loadCells,loadCellsFrom]
     have hr:(Builtin.append_ #[T,T] o.type #[.slice none 0 0,.slice q 0 c']).run P w=.ok (.slice none 0 0) w:=run_append_nothing w T T o.type e ei hT' Be none 0 0 (Nat.le_refl _) _ ⟨.inl ⟨e,hT'⟩,fun w'=>by simp[Builtin.lenOf],hz _,hz _,by simp,by simp⟩
     have ha:c.args=#[s,x]:=by apply Array.ext';simpa using hx
     have ht:c.argTypes=#[T,T]:=by apply Array.ext';simpa using hT
     rw[kP] at hd;refine upon_value (v:=.slice none 0 0) ?_ (by rw[kP];exact hK ρ _ w (S.put (some d) hd (.v _)))
     simp[execOp,pQ,resolve,hf,ha,ht,invoke,builtin,e1,hxv,hr]
    cases mQ:dE P st T (st.ev s) (st.ev x) with
    | none=>simp[mQ] at h
    | some ur =>
      obtain⟨u,r⟩:=ur
      simp only[mQ,Option.some.injEq] at h;subst h;obtain⟨v,w',nD,hr,S'⟩:=GY (ty:=o.type) S (hd d kP) mQ (S.ev s) (S.ev x)
      have ha:c.args=#[s,x]:=by apply Array.ext';simpa using hx
      have ht:c.argTypes=#[T,T]:=by apply Array.ext';simpa using hT
      have hk:=hK nD _ w' S'
      unfold Oper.wp;simp only[execOp,pQ,resolve,hf,ha,ht,invoke,builtin];simp[hr]
      unfold Oper.upon;rw[kP];exact hk
   ·cases h
  ·cases h
 ·rename_i hf;split at h
  ·rename_i x T hx hT;cases mQ:Bb P st T (st.ev x) with
   | none=>simp[mQ] at h
   | some u =>
     simp only[mQ,Option.map_some,Option.some.injEq] at h;subst h;obtain⟨w',hr,S'⟩:=NK (ty:=o.type) S mQ (S.ev x)
     have ha:c.args=#[x]:=by apply Array.ext';simpa using hx
     have ht:c.argTypes=#[T]:=by apply Array.ext';simpa using hT
     have hk:=hK ρ (a.put o.dst (.tuple #[])) w' (by
      have:=S'.put o.dst hd (x:=.eE []) (v:=.tuple #[]) (.eE [] #[] rfl (by simp))
      cases u with
      | none=>exact this
      | some p=>exact this)
     unfold Oper.wp;simp only[execOp,pQ,resolve,hf,ha,ht,invoke,builtin];simp[hr]
     unfold Oper.upon;exact hk
  ·cases h
 ·cases h
theorem Sx (S:kE F h0 w0 nt ρ st a w) {call:Nat→List AV→Option AV} (jY:qK P call) {o:Oper} {e:qW} (h:dN P call o st=some e) (hd:∀d,o.dst=some d→d<nt)
 (hK:∀nD a' w',kE F h0 w0 nt nD (e.apply st) a' w'→K a' w'):o.wp P a w K Q:=by
 unfold dN at h;split at h
 ·rename_i T pQ;cases kP:o.dst with
  | none=>simp[kP,cH] at h
  | some d =>
    cases hz:eF P T with
    | none=>simp[kP,hz,cH] at h
    | some z =>
      simp only[kP,hz,cH,Option.some.injEq] at h;subst h;obtain⟨i,zv,hi,KE,rfl,I2⟩:=yD hz
      obtain⟨nD,S'⟩:=S.newVar d (hd d kP) (zv.cells.toList.map .v) zv.cells T (fG.vs _ _ I2)
      refine upon_value (v:=.pointer (some ⟨w.heap.size,0,none⟩)) (w':=w.alloc (.cells zv.cells T)) ?_ (by rw[kP];exact hK nD _ _ (by rw[kY];exact S'))
      simp only[execOp,pQ,Instr.alloc];simp[Bc w hi KE,Go.newVar,Go.newRow]
 ·rename_i T x pQ;cases kP:o.dst with
  | none=>simp[kP,cH] at h
  | some d =>
    simp only[kP,cH] at h;split at h
    ·rename_i rH;simp only[Option.some.injEq] at h;subst h;obtain⟨nD,S'⟩:=S.newVar d (hd d kP) (st.ev x).cells (a.eval x).cells T ((S.ev x).cells rH)
     refine upon_value (v:=.pointer (some ⟨w.heap.size,0,none⟩)) (w':=w.alloc (.cells (a.eval x).cells T)) ?_ (by rw[kP];exact hK nD _ _ (by rw[kY];exact S'))
     simp only[execOp,pQ,Instr.box];simp[Go.newVar,Go.newRow]
    ·cases h
 ·rename_i T n parts pQ;cases kP:o.dst with
  | none=>simp[kP,cH] at h
  | some d =>
    cases hs:dQ P T with
    | none=>simp[kP,hs,cH] at h
    | some t =>
      obtain⟨e',sz,by_⟩:=t
      cases hz:eF P e' with
      | none=>simp[kP,hs,hz,cH] at h
      | some z =>
        simp only[kP,hs,hz,cH] at h;split at h
        ·rename_i hc;obtain⟨c1,c2,c3⟩:=hc
         cases hf:gJ (fun i=>some (i * sz,sz)) ((List.range n).flatMap fun _=>z.map .v) (parts.toList.map fun p=>(p.1,st.ev p.2)) with
         | none=>simp[hf] at h
         | some cs =>
           simp only[hf,Option.some.injEq] at h;subst h;obtain⟨v,w',xs,hr,hg,ho,mH⟩:=Qz S hs hz c1 c2 c3 hf
           obtain⟨nD,S'⟩:=S.newRow d (hd d kP) hg e' sz n cs xs v ho mH
           refine upon_value (v:=v) (w':=w') ?_ (by rw[kP];exact hK nD _ _ (by rw[kY];exact S'))
           simp only[execOp,pQ];rw[dI hr];rfl
        ·cases h
 ·rename_i T l c pQ;cases kP:o.dst with
  | none=>simp[kP,cH] at h
  | some d =>
    cases hs:dQ P T with
    | none=>simp[kP,hs,cH] at h
    | some t =>
      obtain⟨e',sz,by_⟩:=t
      cases hz:eF P e' with
      | none=>simp[kP,hs,hz,cH] at h
      | some z =>
        simp only[kP,hs,hz,cH] at h;split at h
        ·rename_i n m hl hc;split at h
         ·rename_i I1;obtain⟨c1,rfl,c3,c4⟩:=I1
          simp only[Option.some.injEq] at h;subst h;obtain⟨k,rfl⟩:∃k:Nat,n=k:=⟨n.toNat,by omega⟩
          obtain⟨v,w',xs,hr,hg,ho,mH⟩:=Tt (w:=w) (ctx h0 w0 ρ st w) hs hz (n:=k) (by
           have:((k * by_:Nat):Int)≤140737488355328:=by rw[Int.natCast_mul];exact c3
           omega) (by omega)
          obtain⟨nD,S'⟩:=S.newRow d (hd d kP) hg e' sz k _ xs v ho mH
          simp only[Int.toNat_natCast] at hK;refine upon_value (v:=v) (w':=w') ?_ (by rw[kP];exact hK nD _ _ (by rw[kY];exact S'))
          have e1:=S.ev l
          rw[hl] at e1;have e1:=iC e1
          have e2:=S.ev c
          rw[hc] at e2;have e2:=iC e2
          simp only[execOp,pQ,e1,e2];rw[dI hr];rfl
         ·cases h
        ·cases h
 ·rename_i T x y pQ;cases hs:pK P st T (st.ev x) (st.ev y) with
  | none=>simp[hs] at h
  | some u =>
    obtain⟨s,g,e'⟩:=u
    simp only[hs,Option.map_some,Option.some.injEq] at h;subst h;obtain⟨w',hr,S'⟩:=NJ S hs (S.ev x) (S.ev y)
    have hk:=hK ρ _ w' (S'.put o.dst hd (.v undef))
    unfold Oper.wp;simp only[execOp,pQ];rw[dI hr];exact hk
 ·rename_i T pQ;cases kP:o.dst with
  | none=>simp[kP,cH] at h
  | some d =>
    simp only[kP,cH,Option.some.injEq] at h;subst h;obtain⟨S',k,oL⟩:=S.new (World.grownBy_alloc w (.map #[] 0) none) d (.map []) (.map (some w.heap.size)) rfl (fun b hb=>by simp[dF] at hb;omega)
     (fun C k _=>⟨w.heap.size,#[],0,rfl,S.ext.size,heap_alloc_new w _,trivial⟩)
    have aZ:st.aQ d<(ctx h0 w0 (tC ρ d (st.aQ d) (.map (some w.heap.size))) (st.new d (.map [])) (w.alloc (.map #[] 0))).aQ d:=by simp[ctx,St.new]
    have kK:(ctx h0 w0 (tC ρ d (st.aQ d) (.map (some w.heap.size))) (st.new d (.map [])) (w.alloc (.map #[] 0))).ρ d (st.aQ d)=.map (some w.heap.size):=oL
    have:=cM.mp (C:=ctx h0 w0 (tC ρ d (st.aQ d) (.map (some w.heap.size))) (st.new d (.map [])) (w.alloc (.map #[] 0))) d (st.aQ d) aZ (by rw[kK];rfl)
    rw[kK] at this;have hS:=S'.put (some d) (fun t ht=>by cases ht;exact hd d kP) this
    refine upon_value (v:=.map (some w.heap.size)) (w':=w.alloc (.map #[] 0)) ?_ (by rw[kP];exact hK _ _ _ (by rw[kY];exact hS))
    simp only[execOp,pQ,Option.map_none];rfl
 ·rename_i T m x y pQ;cases hs:sX P st T (st.ev m) (st.ev x) (st.ev y) with
  | none=>simp[hs] at h
  | some u =>
    obtain⟨s,g,e'⟩:=u
    simp only[hs,Option.map_some,Option.some.injEq] at h;subst h;obtain⟨w',hr,S'⟩:=GR S hs (S.ev m) (S.ev x) (S.ev y)
    have hk:=hK ρ _ w' (S'.put o.dst hd (.v undef))
    unfold Oper.wp;simp only[execOp,pQ];rw[dI hr];exact hk
 ·rename_i c pQ;exact AX S jY pQ h hd hK
 ·cases hv:iO P st o.op with
  | none=>simp[hv] at h
  | some x =>
    simp only[hv,Option.map_some,Option.some.injEq] at h;subst h;obtain⟨v,hr,fU⟩:=NC S hv
    exact upon_value hr (hK ρ _ w (S.put o.dst hd fU))
end
end Go.Ab
end
section
namespace Go.Ab
open Classical
def lX (aQ:Nat→Nat) (x:AV):Prop:=∃(C:Ctx) (v:Value),C.aQ=aQ∧cM C x v
theorem lX.ptr {aQ:Nat→Nat} {s g o:Nat} (h:lX aQ (.ptr s g o)):g<aQ s:=by
 obtain⟨C,v,rfl,h⟩:=h
 cases h with
 | ptr s g off b hg hb=>exact hg
theorem lX.own {aQ:Nat→Nat} {s g:Nat} (h:lX aQ (.own s g)):g<aQ s:=by
 obtain⟨C,v,rfl,h⟩:=h
 cases h with
 | own s g hg _=>exact hg
theorem lX.vw {aQ:Nat→Nat} {s g o n:Nat} (h:lX aQ (.vw s g o n)):g<aQ s:=by
 obtain⟨C,v,rfl,h⟩:=h
 cases h with
 | vw s g o n b cap hg _ _ _=>exact hg
theorem lX.mp {aQ:Nat→Nat} {s g:Nat} (h:lX aQ (.mp s g)):g<aQ s:=by
 obtain⟨C,v,rfl,h⟩:=h
 cases h with
 | mp s g hg _=>exact hg
theorem lX.agg {aQ:Nat→Nat} {cs:List AV} (h:lX aQ (.agg cs)):∀c∈cs,lX aQ c:=by
 obtain⟨C,v,rfl,h⟩:=h
 cases h with
 | agg cs a hl hr _ =>
   intro c hc;obtain⟨i,hi,rfl⟩:=List.getElem_of_mem hc
   exact⟨C,a[i],rfl,hr i _ _ (by simp[hi]) (by simp)⟩
theorem lX.Fp {aQ:Nat→Nat} {f:Nat} {cs:List AV} (h:lX aQ (.Fp f cs)):∀c∈cs,lX aQ c:=by
 obtain⟨C,v,rfl,h⟩:=h
 cases h with
 | Fp f cs a hl hr =>
   intro c hc;obtain⟨i,hi,rfl⟩:=List.getElem_of_mem hc
   exact⟨C,a[i]'(by omega),rfl,hr i _ _ (by simp[hi]) (by simp)⟩
section
variable {P:Program} {call:Nat→List AV→Option AV} {st st':St}
def pO (st st':St):Prop:=∀s g,g<st.aQ s→st'.heap s g=st.heap s g
theorem GZ {x:AV} (hx:lX st.aQ x) (hh:pO st st'):pX st' x=pX st x:=by
 cases x<;>simp only[pX]
 rw[hh _ _ hx.ptr]
theorem rX {x:AV} (hx:lX st.aQ x) (hh:pO st st'):aT st' x=aT st x:=by
 cases x
 case own=>simp only[aT,hh _ _ hx.own]
 case vw=>simp only[aT,hh _ _ hx.vw]
 case v y =>
  cases y
  case slice p n c=>cases p<;>cases n<;>cases c<;>rfl
  all_goals rfl
 all_goals rfl
theorem Rb {T:Nat} {x i:AV} (hx:lX st.aQ x) (hh:pO st st'):bD P st' T x i=bD P st T x i:=by
 unfold bD;cases x<;>try rfl
 simp only[hh _ _ hx.own]
theorem Xm {T:Nat} {x:AV} {lo hi:Option Operand} (hx:∀s g,((∃o,x=.ptr s g o)∨x=.own s g∨∃o n,x=.vw s g o n)→st'.heap s g=st.heap s g) (hl:∀p,lo=some p→st'.ev p=st.ev p) (Aa:∀p,hi=some p→st'.ev p=st.ev p):dL P st' T x lo hi=dL P st T x lo hi:=by
 unfold dL;cases dQ P T with
 | none =>
   simp only
   cases jE P T with
   | none=>rfl
   | some na =>
     cases x<;>try rfl
     rename_i s g o;cases lo<;>cases hi<;>try rfl
     simp only[hx s g (.inl ⟨o,rfl⟩)]
 | some t =>
   simp only
   cases x<;>try rfl
   case v y =>
    cases y<;>try rfl
    rename_i p n c;cases p<;>cases n<;>cases c<;>try rfl
    cases lo with
    | none=>cases hi with
      | none=>rfl
      | some h=>simp only[Aa h rfl]
    | some l=>cases hi with
      | none=>simp only[hl l rfl]
      | some h=>simp only[hl l rfl,Aa h rfl]
   case sl n cs =>
    cases lo with
    | none=>cases hi with
      | none=>rfl
      | some h=>simp only[Aa h rfl]
    | some l=>cases hi with
      | none=>simp only[hl l rfl]
      | some h=>simp only[hl l rfl,Aa h rfl]
   case own s g =>
    simp only[hx s g (.inr (.inl rfl))];cases lo with
    | none=>cases hi with
      | none=>rfl
      | some h=>simp only[Aa h rfl]
    | some l=>cases hi with
      | none=>simp only[hl l rfl]
      | some h=>simp only[hl l rfl,Aa h rfl]
   case vw s g o n =>
    cases o with
    | succ o=>rfl
    | zero =>
      simp only[hx s g (.inr (.inr ⟨_,_,rfl⟩))];cases st.heap s g with
      | none=>rfl
      | some e=>cases e with
        | row e' sT n' Dg =>
          cases lo with
          | none=>cases hi<;>rfl
          | some l=>cases hi with
            | none=>rfl
            | some h=>simp only[hl l rfl,Aa h rfl]
        | _=>rfl
theorem HA {T:Nat} {x:AV} {lo hi:Option Operand} (hx:lX st.aQ x) (hh:pO st st') (hl:∀p,lo=some p→st'.ev p=st.ev p) (Aa:∀p,hi=some p→st'.ev p=st.ev p):dL P st' T x lo hi=dL P st T x lo hi :=
 Xm (fun s g h=>by
  rcases h with ⟨o,rfl⟩|rfl|⟨o,n,rfl⟩
  ·exact hh _ _ hx.ptr
  ·exact hh _ _ hx.own
  ·exact hh _ _ hx.vw) hl Aa
def AY (st:St):Prop:=∀s g cs,st.heap s g=some (.cells cs)→∀c∈cs,lX st.aQ c
theorem NL {x:AV} (hx:lX st.aQ x) (hh:pO st st'):wV st' x=wV st x:=by
 unfold wV;cases x<;>try rfl
 ·simp only[hh _ _ hx.own]
 ·simp only[hh _ _ hx.vw]
theorem Hl (hp:AY st) {x:AV} (hx:lX st.aQ x) (hh:pO st st'):dA st' x=dA st x:=by
 unfold dA;cases x<;>try rfl
 ·rename_i s g o;simp only[hh _ _ hx.ptr];cases he:st.heap s g with
  | none=>rfl
  | some e =>
    cases e with
    | cells cs =>
      have:cs.map (wV st')=cs.map (wV st):=List.map_congr_left fun c hc=>NL (hp s g cs he c hc) hh
      simp only[this]
    | _=>rfl
 ·simp only[hh _ _ hx.own]
 ·simp only[hh _ _ hx.vw]
theorem Xn (hp:AY st) {x:AV} (hx:lX st.aQ x) (hh:pO st st'):fV st' x=fV st x:=by
 unfold fV;cases x<;>try (simp only[Hl hp hx hh];done)
 ·rename_i cs;have:cs.map (dA st')=cs.map (dA st):=List.map_congr_left fun c hc=>Hl hp (hx.agg c hc) hh
  simp only[this]
 ·rename_i f cs;have:cs.map (dA st')=cs.map (dA st):=List.map_congr_left fun c hc=>Hl hp (hx.Fp c hc) hh
  simp only[this]
theorem HB {T:Nat} {x y:AV} (hx:lX st.aQ x) (hh:pO st st'):pK P st' T x y=pK P st T x y:=by
 unfold pK;cases x<;>try rfl
 simp only[hh _ _ hx.ptr]
theorem AZ {T:Nat} {s x:AV} (hs:lX st.aQ s) (hx:lX st.aQ x) (hh:pO st st'):dE P st' T s x=dE P st T s x:=by
 unfold dE;simp only[rX hx hh];cases s
 case own=>simp only[hh _ _ hs.own]
 case v y =>
  cases y
  case slice p n c=>cases p<;>cases n<;>cases c<;>rfl
  all_goals rfl
 all_goals rfl
theorem BA {T:Nat} {s x:AV} (hs:lX st.aQ s) (hx:lX st.aQ x) (hh:pO st st'):mX P st' T s x=mX P st T s x:=by
 unfold mX;rw[rX hx hh];cases dQ P T with
 | none=>rfl
 | some t=>cases aT st x with
   | none=>rfl
   | some mn =>
     cases s<;>try rfl
     case vw s g o n =>
      cases o with
      | zero=>simp only[hh _ _ hs.vw]
      | succ o=>rfl
theorem HC {T:Nat} {x:AV} (hx:lX st.aQ x) (hh:pO st st'):Bb P st' T x=Bb P st T x:=by
 unfold Bb;cases dQ P T with
 | none=>rfl
 | some t =>
   cases x<;>try rfl
   case vw s g o n=>simp only[hh _ _ hx.vw]
   case v y =>
    cases y<;>try rfl
    rename_i p n c;cases p<;>cases n<;>cases c<;>rfl
   case sl n cs=>cases n<;>rfl
theorem Sy {T:Nat} {x:AV} {lo:Option Operand} {hi mx:Operand} (hx:∀s g,x=.own s g→st'.heap s g=st.heap s g) (hl:∀p,lo=some p→st'.ev p=st.ev p) (h1:st'.ev hi=st.ev hi) (h2:st'.ev mx=st.ev mx):zW P st' T x lo hi mx=zW P st T x lo hi mx:=by
 unfold zW;rw[h1,h2];cases dQ P T with
 | none=>rfl
 | some t =>
   simp only
   cases lo with
   | none =>
     simp only
     cases x<;>try rfl
     case own s g=>simp only[hx s g rfl]
     case v y =>
      cases y<;>try rfl
      rename_i p n c;cases p<;>cases n<;>cases c<;>rfl
   | some l =>
     simp only[hl l rfl];cases x<;>try rfl
     case own s g=>simp only[hx s g rfl]
     case v y =>
      cases y<;>try rfl
      rename_i p n c;cases p<;>cases n<;>cases c<;>rfl
theorem NM {T:Nat} {m x:AV} {ok:Bool} (hm:lX st.aQ m) (hh:pO st st'):Sd P st' T m x ok=Sd P st T m x ok:=by
 unfold Sd;cases m<;>try rfl
 simp only[hh _ _ hm.mp]
theorem BB {T:Nat} {m x y:AV} (hm:lX st.aQ m) (hh:pO st st'):sX P st' T m x y=sX P st T m x y:=by
 unfold sX;cases m<;>try rfl
 simp only[hh _ _ hm.mp]
theorem HD {r:AV} {dst:Option Nat} (hc:∀d,dst=some d→st'.aQ d=st.aQ d):iP r st' dst=iP r st dst:=by
 unfold iP;cases dst with
 | none=>rfl
 | some d=>simp only[hc d rfl]
theorem xI (hp:AY st) {g:Nat} {args:List AV} {dst:Option Nat} (hx:∀x∈args,lX st.aQ x) (hh:pO st st') (hc:∀d,dst=some d→st'.aQ d=st.aQ d):aN call g args st' dst=aN call g args st dst:=by
 unfold aN;have:args.map (fV st')=args.map (fV st):=List.map_congr_left fun x Iv=>Xn hp (hx x Iv) hh
 rw[this];have h2:∀r,iP r st' dst=iP r st dst:=fun r=>HD hc
 simp only[h2]
theorem HE (hp:AY st) {g:Nat} {args:List AV} {dst:Option Nat} (hx:∀x∈args,lX st.aQ x) (hh:pO st st') (hc:∀d,dst=some d→st'.aQ d=st.aQ d):lA call g args st' dst=lA call g args st dst:=by
 unfold lA;split
 ·rename_i s k rest;rw[hh _ _ (hx _ (List.mem_cons_self ..)).own];cases dst with
  | none=>rfl
  | some d=>simp only[hc d rfl]
 ·rw[xI hp hx hh hc]
theorem BC (hp:AY st) {g:Nat} {args:List AV} {dst:Option Nat} (hx:∀x∈args,lX st.aQ x) (hh:pO st st') (hc:∀d,dst=some d→st'.aQ d=st.aQ d):eQ call g args st' dst=eQ call g args st dst:=by
 have h1:=xI (call:=call) (g:=g) hp hx hh hc
 have:args.map (fV st')=args.map (fV st):=List.map_congr_left fun x Iv=>Xn hp (hx x Iv) hh
 unfold eQ;rw[this,h1];have h2:∀r s k,Dj r st' dst s k=Dj r st dst s k:=fun r s k=>by
  unfold Dj;cases dst with
  | none=>cases r<;>rfl
  | some d=>cases r<;>simp only[hc d rfl]
 simp only[h2]
theorem Og {parts:List (Nat × Operand)} (h:∀p∈parts,st'.ev p.2=st.ev p.2):(parts.map fun p=>(p.1,st'.ev p.2))=parts.map fun p=>(p.1,st.ev p.2) :=
 List.map_congr_left fun p hp=>by rw[h p hp]
theorem Uy {parts:List (Nat × Operand)} (h:∀p∈parts,st'.ev p.2=st.ev p.2):(parts.all fun p=>(st'.ev p.2).jI)=parts.all fun p=>(st.ev p.2).jI:=by
 induction parts with
 | nil=>rfl
 | cons p ps ih =>
   simp only[List.all_cons];rw[h p (by simp),ih fun q hq=>h q (by simp[hq])]
theorem z7 {aQ:Nat→Nat} {x:AV} {g:Nat} {oK:List AV} (h:EX x=some (g,oK)) (hx:lX aQ x):∀c∈oK,lX aQ c:=by
 unfold EX at h;split at h
 ·split at h
  ·simp only[Option.some.injEq,Prod.mk.injEq] at h;obtain⟨rfl,rfl⟩:=h
   simp
  ·cases h
 ·simp only[Option.some.injEq,Prod.mk.injEq] at h;obtain⟨rfl,rfl⟩:=h
  exact hx.Fp
 ·cases h
variable [Ext]
theorem BD (hp:AY st) {c:Call} {dst:Option Nat} (he:∀p∈c.operands,st'.ev p=st.ev p) (hi:∀p∈c.operands,lX st.aQ (st.ev p)) (hh:pO st st') (hc:∀d,dst=some d→st'.aQ d=st.aQ d) :
 iU P call c dst st'=iU P call c dst st:=by
 have sR:∀p∈c.args.toList,p∈c.operands:=fun p hp=>by simp[Call.operands];right;simpa using hp
 unfold iU;split
 ·rename_i f hf;have hfo:f∈c.operands:=by simp[Call.operands,hf]
  have hm:c.args.toList.map st'.ev=c.args.toList.map st.ev:=List.map_congr_left fun p hp=>he p (sR p hp)
  have hia:∀x∈c.args.toList.map st.ev,lX st.aQ x:=fun x hx=>by
   obtain⟨p,hp,rfl⟩:=List.mem_map.1 hx
   exact hi p (sR p hp)
  unfold mY;rw[hm];split
  ·split
   ·exact HE hp hia hh hc
   ·split
    ·exact BC hp hia hh hc
    ·exact xI hp hia hh hc
  ·rw[he f hfo];cases h:EX (st.ev f) with
   | none=>rfl
   | some gc =>
     obtain⟨g,oK⟩:=gc
     refine xI hp (fun x hx=>?_) hh hc
     rcases List.mem_append.1 hx with hx|hx
     ·exact hia x hx
     ·exact z7 h (hi f hfo) x hx
 ·split
  ·rename_i x T hx hT;have S6:=sR x (by rw[hx];simp)
   rw[he x S6,rX (hi x S6) hh]
  ·rfl
 ·split
  ·rename_i x y hx;rw[he x (sR x (by rw[hx];simp)),he y (sR y (by rw[hx];simp))]
  ·rfl
 ·split
  ·rename_i x y hx;rw[he x (sR x (by rw[hx];simp)),he y (sR y (by rw[hx];simp))]
  ·rfl
 ·cases dst with
  | none=>rfl
  | some d =>
  simp only[cH];split
  ·rename_i s x T T' hx hT
   have hso:=sR s (by rw[hx];simp)
   have S6:=sR x (by rw[hx];simp)
   have hn:Gg P st' T (st'.ev s) (st'.ev x)=Gg P st T (st.ev s) (st.ev x):=by simp only[Gg,he s hso,he x S6,rX (hi x S6) hh]
   rw[hn,he s hso,he x S6,AZ (hi s hso) (hi x S6) hh,BA (hi s hso) (hi x S6) hh,hc d rfl]
  ·rfl
 ·split
  ·rename_i x T hx hT;have S6:=sR x (by rw[hx];simp)
   rw[he x S6,HC (hi x S6) hh]
  ·rfl
 ·rfl
theorem NN (hp:AY st) {o:Oper} (he:∀p∈o.op.operands,st'.ev p=st.ev p) (hi:∀p∈o.op.operands,lX st.aQ (st.ev p)) (hh:pO st st') (hc:∀d,o.dst=some d→st'.aQ d=st.aQ d) :
 dN P call o st'=dN P call o st:=by
 obtain⟨dst,op,type,pos,after,guard⟩:=o
 cases op<;>simp only[dN,iO,Op.operands] at *
 case call c=>exact BD hp he hi hh hc
 case alloc T=>cases dst with
  | none=>rfl
  | some d=>simp only[cH,hc d rfl]
 case box T x=>cases dst with
  | none=>rfl
  | some d=>simp only[cH,hc d rfl,he x (by simp)]
 case buildSlice T n parts =>
  have zM:∀p∈parts.toList,st'.ev p.2=st.ev p.2:=fun p hp=>he p.2 (by simp;exact⟨p.1,by simpa using hp⟩)
  rw[Og zM,Uy zM];cases dst with
  | none=>rfl
  | some d=>simp only[cH,hc d rfl]
 case makeSlice T l c =>
  rw[he l (by simp),he c (by simp)]
  cases dst with
  | none=>rfl
  | some d=>simp only[cH,hc d rfl]
 case makeMap T r =>
  cases r with
  | none=>cases dst with
    | none=>rfl
    | some d=>simp only[cH,hc d rfl]
  | some r=>rfl
 case mapUpdate T m x y=>rw[he m (by simp),he x (by simp),he y (by simp),BB (hi m (by simp)) hh]
 case lookup T m x ok=>rw[he m (by simp),he x (by simp),NM (hi m (by simp)) hh]
 case store T x y=>rw[he x (by simp),he y (by simp),HB (hi x (by simp)) hh]
 case move x=>rw[he x (by simp)]
 case assign x=>rw[he x (by simp)]
 case pick c x y=>rw[he c (by simp),he x (by simp),he y (by simp)]
 case binOp op T x y yT=>rw[he x (by simp),he y (by simp)]
 case unOp op T x=>rw[he x (by simp)]
 case convert s d x=>rw[he x (by simp)]
 case nilCheck x=>rw[he x (by simp)]
 case field T x f=>rw[he x (by simp)]
 case fieldAddr T x f=>rw[he x (by simp)]
 case indexAddr T x i=>rw[he x (by simp),he i (by simp),Rb (hi x (by simp)) hh]
 case load T x=>rw[he x (by simp),GZ (hi x (by simp)) hh]
 case extract t i=>rw[he t (by simp)]
 case build T parts =>
  have zM:∀p∈parts.toList,st'.ev p.2=st.ev p.2:=fun p hp=>he p.2 (by simp;exact⟨p.1,by simpa using hp⟩)
  unfold iN;rw[Og zM,Uy zM]
 case slice T x lo Aa mx =>
  cases mx with
  | some m =>
    cases Aa with
    | none=>rfl
    | some h =>
      simp only
      rw[he x (by simp),Sy (fun s g hx=>by have:=hi x (by simp);rw[hx] at this;exact hh _ _ this.own) (fun p hp=>he p (by simp[hp])) (he h (by simp)) (he m (by simp))]
  | none =>
    simp only
    rw[he x (by simp),HA (hi x (by simp)) hh (fun p hp=>he p (by simp[hp])) (fun p hp=>he p (by simp[hp]))]
 case makeFunc fn first captured =>
  cases fn with
  | func f =>
    simp only
    have:captured.toList.map st'.ev=captured.toList.map st.ev:=List.map_congr_left fun p hp=>he p (by simp;right;simpa using hp)
    rw[this]
  | _=>rfl
theorem HF {ops:Array Oper} {o:Oper} (Bf:lZ ops o=0∨lZ ops o=2) (he:∀p∈o.op.operands,st'.ev p=st.ev p) (hc:∀d,o.dst=some d→st'.aQ d=st.aQ d) :
 dN P call o st'=dN P call o st:=by
 obtain⟨dst,op,type,pos,after,guard⟩:=o
 cases op<;>simp only[dN,iO,Op.operands,lZ] at *
 case call c =>
  exfalso
  obtain⟨callee,args,sQ⟩:=c
  cases callee with
  | builtin b=>cases b<;>simp at Bf;split at Bf<;>simp at Bf
  | value f=>cases f<;>simp at Bf;split at Bf<;>(try split at Bf)<;>(try split at Bf)<;>simp at Bf
  | _=>simp at Bf
 case alloc T=>cases dst with
  | none=>rfl
  | some d=>simp only[cH,hc d rfl]
 case box T x=>cases dst with
  | none=>rfl
  | some d=>simp only[cH,hc d rfl,he x (by simp)]
 case buildSlice T n parts =>
  have zM:∀p∈parts.toList,st'.ev p.2=st.ev p.2:=fun p hp=>he p.2 (by simp;exact⟨p.1,by simpa using hp⟩)
  rw[Og zM,Uy zM];cases dst with
  | none=>rfl
  | some d=>simp only[cH,hc d rfl]
 case makeSlice T l c =>
  rw[he l (by simp),he c (by simp)]
  cases dst with
  | none=>rfl
  | some d=>simp only[cH,hc d rfl]
 case makeMap T r =>
  cases r with
  | none=>cases dst with
    | none=>rfl
    | some d=>simp only[cH,hc d rfl]
  | some r=>rfl
 case mapUpdate T m x y=>simp at Bf
 case lookup T m x ok=>simp at Bf
 case store T x y=>simp at Bf
 case move x=>rw[he x (by simp)]
 case assign x=>rw[he x (by simp)]
 case pick c x y=>rw[he c (by simp),he x (by simp),he y (by simp)]
 case binOp op T x y yT=>rw[he x (by simp),he y (by simp)]
 case unOp op T x=>rw[he x (by simp)]
 case convert s d x=>rw[he x (by simp)]
 case nilCheck x=>rw[he x (by simp)]
 case field T x f=>rw[he x (by simp)]
 case fieldAddr T x f=>rw[he x (by simp)]
 case indexAddr T x i=>simp at Bf
 case load T x=>simp at Bf
 case extract t i=>rw[he t (by simp)]
 case build T parts =>
  have zM:∀p∈parts.toList,st'.ev p.2=st.ev p.2:=fun p hp=>he p.2 (by simp;exact⟨p.1,by simpa using hp⟩)
  unfold iN;rw[Og zM,Uy zM]
 case slice T x lo Aa mx=>simp at Bf
 case makeFunc fn first captured =>
  cases fn with
  | func f =>
    simp only
    have:captured.toList.map st'.ev=captured.toList.map st.ev:=List.map_congr_left fun p hp=>he p (by simp;right;simpa using hp)
    rw[this]
  | _=>rfl
end
end Go.Ab
end
section
namespace Go.Ab
open Classical
section
variable {P:Program} {call:Nat→List AV→Option AV} {st st':St} {ops:Array Oper}
theorem Oh {r:AV} {dst:Option Nat} {e:qW} (h:iP r st dst=some e):e.dst=dst∧e.dP=none∧∀d x,e.new=some (d,x)→dst=some d:=by
 unfold iP at h;split at h
 ·simp only[Option.some.injEq] at h;subst h;exact⟨rfl,rfl,fun d x h=>by simp at h⟩
 ·cases dst with
  | none=>cases h
  | some d=>simp only[Option.some.injEq] at h;subst h;exact⟨rfl,rfl,fun d x h=>by simp at h;rw[h.1]⟩
theorem xJ {g:Nat} {args:List AV} {dst:Option Nat} {e:qW} (h:aN call g args st dst=some e):e.dst=dst∧e.dP=none∧∀d x,e.new=some (d,x)→dst=some d:=by
 unfold aN at h;split at h
 ·cases hc:call g args with
  | none=>simp[hc,cH] at h
  | some r=>simp only[hc,cH] at h;exact Oh h
 ·split at h
  ·rename_i xs _;cases hc:call g xs with
   | none=>simp[hc,cH] at h
   | some r =>
     simp only[hc,cH] at h;split at h
     ·exact Oh h
     ·cases h
  ·cases h
theorem Oi {g:Nat} {args:List AV} {dst:Option Nat} {e:qW} (h:lA call g args st dst=some e):e.dst=dst∧(∀d x,e.new=some (d,x)→dst=some d)∧∀s k x,e.dP=some (s,k,x)→args.head? = some (.own s k):=by
 unfold lA at h;split at h
 ·split at h
  ·split at h
   ·split at h
    ·cases dst with
     | none=>cases h
     | some d =>
       simp only[Option.some.injEq] at h;subst h;exact⟨rfl,fun d x h=>by simp at h;rw[h.1],fun s k x h=>by simp at h;simp[h.1,h.2.1]⟩
    ·simp only[Option.some.injEq] at h;subst h;exact⟨rfl,fun d x h=>by simp at h,fun s k x h=>by simp at h;simp[h.1,h.2.1]⟩
    ·cases h
   ·cases h
  ·cases h
 ·split at h
  ·obtain⟨h1,h2,h3⟩:=xJ h
   exact⟨h1,h3,fun s k x h=>by rw[h2] at h;cases h⟩
  ·cases h
theorem BE {g:Nat} {args:List AV} {dst:Option Nat} {e:qW} (h:eQ call g args st dst=some e):e.dst=dst∧(∀d x,e.new=some (d,x)→dst=some d)∧∀s k x,e.dP=some (s,k,x)→∃y∈args,y=.own s k∨∃cs,y=.agg cs∧.own s k∈cs:=by
 unfold eQ at h;split at h
 ·rename_i s k hk;split at h
  ·split at h
   ·rename_i xs _;cases hc:call g xs with
    | none=>simp[hc,cH] at h
    | some r =>
      simp only[hc,cH] at h;have hu:e.dP=some (s,k,none)∧e.dst=dst∧∀d x,e.new=some (d,x)→dst=some d:=by
       rcases Of h with ⟨_,rfl⟩|⟨_,e1,sz,n,cs,d,rfl,rfl,_,rfl⟩
       ·exact⟨rfl,rfl,fun d x h=>by simp at h⟩
       ·exact⟨rfl,rfl,fun d x h=>by simp at h;rw[h.1]⟩
      ·refine⟨hu.2.1,hu.2.2,fun s' k' x h=>?_⟩
       rw[hu.1] at h;simp only[Option.some.injEq,Prod.mk.injEq] at h;obtain⟨rfl,rfl,_⟩:=h
       have hm:(s,k)∈args.flatMap iQ:=by rw[hk];simp
       obtain⟨y,hy,hyk⟩:=List.mem_flatMap.1 hm
       refine⟨y,hy, ?_⟩
       have key:∀c,(s,k)∈gK c→c=.own s k:=fun c hc=>by
        cases c<;>simp[gK] at hc
        obtain⟨rfl,rfl⟩:=hc
        rfl
       cases y with
       | agg cs =>
         obtain⟨c,hc,hck⟩:=List.mem_flatMap.1 (show (s,k)∈cs.flatMap gK from hyk)
         exact .inr ⟨cs,rfl,by rw[← key c hck];exact hc⟩
       | own a b=>exact .inl (key _ hyk)
       | _=>simp[iQ,gK] at hyk
   ·cases h
  ·cases h
 ·obtain⟨h1,h2,h3⟩:=xJ h
  exact⟨h1,h3,fun s k x h=>by rw[h2] at h;cases h⟩
theorem oA (e:qW) (t:Nat):(e.apply st).env t=if e.dst=some t then e.val else st.env t:=by
 have h2:∀(s1:St),(s1.put e.dst e.val).env t=if e.dst=some t then e.val else s1.env t:=fun s1=>by
  cases hd:e.dst with
  | none=>simp[St.put]
  | some d =>
    simp only[St.put,Option.some.injEq];by_cases h:t=d
    ·subst h;simp
    ·rw[if_neg h,if_neg (fun h'=>h h'.symm)]
 unfold qW.apply;rw[h2];cases e.dP<;>cases e.new<;>rfl
theorem kZ (e:qW) (s:Nat):(e.apply st).aQ s=match e.new with
 | some (d,es)=>if s=d then st.aQ d+es.length else st.aQ s
 | none=>st.aQ s:=by
 unfold qW.apply;rw[WX];cases e.dP<;>cases e.new<;>rfl
theorem sF (e:qW) (s g:Nat):(e.apply st).heap s g=match e.new with
 | some (d,es)=>if s=d∧st.aQ d≤g∧g-st.aQ d<es.length then es[g-st.aQ d]? else (match e.dP with
   | some (s0,g0,y)=>if s=s0∧g=g0 then y else st.heap s g
   | none=>st.heap s g)
 | none=>(match e.dP with
   | some (s0,g0,y)=>if s=s0∧g=g0 then y else st.heap s g
   | none=>st.heap s g):=by
 unfold qW.apply;rw[Vi];cases e.dP<;>cases e.new<;>rfl
theorem S7 {o:Oper} (h:∀j want d,o.guard=some (j,want)→(ops[j]?).bind (·.dst)=some d→st'.env d=st.env d):gv ops st' o.guard=gv ops st o.guard:=by
 unfold gv;cases hg:o.guard with
 | none=>rfl
 | some jw =>
   obtain⟨j,want⟩:=jw
   simp only
   cases hd:(ops[j]?).bind (·.dst) with
   | none=>rfl
   | some d=>simp only[h j want d hg hd]
theorem S8 {a b:St} (h1:a.env=b.env) (h2:a.heap=b.heap) (h3:a.aQ=b.aQ):a=b:=by
 cases a;cases b;simp_all
theorem Xo {T:Nat} {p x:AV} {u:Nat × Nat × mV × Nat} (h:mX P st T p x=some u):∃n,p=.vw u.1 u.2.1 0 n:=by
 unfold mX at h;split at h
 ·split at h
  ·split at h
   ·simp only[Option.some.injEq] at h;subst h;exact⟨_,rfl⟩
   ·cases h
  ·cases h
 ·cases h
theorem z8 {T:Nat} {p:AV} {u:Nat × Nat × mV} (h:Bb P st T p=some (some u)):∃o n,p=.vw u.1 u.2.1 o n:=by
 unfold Bb at h;split at h
 ·split at h
  ·split at h
   ·simp only[Option.some.injEq] at h;subst h;exact⟨_,_,rfl⟩
   ·cases h
  ·cases h
 ·simp at h
 ·simp at h
 ·cases h
variable [Ext]
theorem NO {o:Oper} {e:qW} (h:dN P call o st=some e) :
 e.dst=o.dst∧(∀d x,e.new=some (d,x)→o.dst=some d)∧(∀s g x,e.dP=some (s,g,x)→lZ ops o=3∧∃p∈o.op.operands,(∃off,st.ev p=.ptr s g off)∨st.ev p=.own s g∨st.ev p=.mp s g∨(∃cs,st.ev p=.agg cs∧.own s g∈cs)∨∃o n,st.ev p=.vw s g o n):=by
 obtain⟨dst,op,type,pos,after,guard⟩:=o
 have val:∀x:Option AV,(x.map fun y=>({ dst:=dst,val:=y }:qW))=some e→e.dst=dst∧(∀d x,e.new=some (d,x)→dst=some d)∧(∀s g x,e.dP≠some (s,g,x)):=fun x h=>by
  cases x with
  | none=>simp at h
  | some y=>simp at h;subst h;exact⟨rfl,fun d x h=>by simp at h,fun s g x h=>by simp at h⟩
 cases op
 case call c =>
  simp only[dN] at h;unfold iU at h;split at h
  ·rename_i f hc;unfold mY at h;split at h
   ·rename_i g;split at h
    ·rename_i hmv;obtain⟨h1,h2,h3⟩:=Oi h
     refine⟨h1,h2,fun s k x hu=>?_⟩
     have hh:=h3 s k x hu
     obtain⟨callee,args,sQ⟩:=c
     simp only at hc hh
     subst hc;cases hl:args.toList with
     | nil=>rw[hl] at hh;simp at hh
     | cons p ps =>
       rw[hl] at hh;simp only[List.map_cons,List.head?_cons,Option.some.injEq] at hh;refine⟨?_,p, ?_,.inr (.inl hh)⟩
       ·simp only[lZ,hl,hmv];cases p with
        | const v=>simp[St.ev] at hh
        | _=>simp
       simp only[Op.operands,Call.operands];simp
       right
       rw[← Array.mem_toList_iff,hl];simp
    ·split at h
     ·rename_i heat;obtain⟨h1,h2,h3⟩:=BE h
      refine⟨h1,h2,fun s k x hu=>?_⟩
      obtain⟨y,hy,hyo⟩:=h3 s k x hu
      obtain⟨callee,args,sQ⟩:=c
      simp only at hc hy
      subst hc;refine⟨by simp[lZ,heat], ?_⟩
      obtain⟨p,hp,rfl⟩:=List.mem_map.1 hy
      refine⟨p, ?_, ?_⟩
      ·simp only[Op.operands,Call.operands];simp
       right
       simpa using hp
      ·rcases hyo with h|⟨cs,h,hm⟩
       ·exact .inr (.inl h)
       ·exact .inr (.inr (.inr (.inl ⟨cs,h,hm⟩)))
     ·obtain⟨h1,h2,h3⟩:=xJ h
      exact⟨h1,h3,fun s g x h=>by rw[h2] at h;cases h⟩
   ·split at h
    ·obtain⟨h1,h2,h3⟩:=xJ h
     exact⟨h1,h3,fun s g x h=>by rw[h2] at h;cases h⟩
    ·cases h
  ·split at h
   ·split at h
    ·simp only[Option.some.injEq] at h;subst h;exact⟨rfl,fun d x h=>by simp at h,fun s g x h=>by simp at h⟩
    ·cases h
   ·cases h
  ·split at h
   ·split at h
    ·simp only[Option.some.injEq] at h;subst h;exact⟨rfl,fun d x h=>by simp at h,fun s g x h=>by simp at h⟩
    ·cases h
   ·cases h
  ·split at h
   ·split at h
    ·simp only[Option.some.injEq] at h;subst h;exact⟨rfl,fun d x h=>by simp at h,fun s g x h=>by simp at h⟩
    ·cases h
   ·cases h
  ·rename_i hc;cases dst with
   | none=>simp[cH] at h
   | some d =>
     simp only[cH] at h;split at h
     ·rename_i s x T T' hx hT
      split at h
      ·split at h
       ·cases mQ:mX P st T (st.ev s) (st.ev x) with
        | none=>simp[mQ] at h
        | some u =>
        simp only[mQ,Option.map_some,Option.some.injEq] at h;subst h;refine⟨rfl,nofun,fun s' g' x' hu=>?_⟩
        simp only[Option.some.injEq,Prod.mk.injEq] at hu;obtain⟨rfl,rfl,rfl⟩:=hu
        obtain⟨n0,zA⟩:=Xo mQ
        refine⟨?_,s, ?_,.inr (.inr (.inr (.inr ⟨0,n0,zA⟩)))⟩
        ·obtain⟨callee,args,sQ⟩:=c
         simp only at hc hx
         subst hc;simp only[lZ,hx];cases s with
         | const v =>
           simp[St.ev] at zA
         | _=>rfl
        ·simp only[Op.operands,Call.operands,hc];simp
         rw[← Array.mem_toList_iff,hx];simp
       split at h
       ·simp only[Option.some.injEq] at h;subst h;exact⟨rfl,nofun,nofun⟩
       cases mQ:dE P st T (st.ev s) (st.ev x) with
       | none=>simp[mQ] at h
       | some ur =>
         obtain⟨u,r⟩:=ur
         simp only[mQ,Option.some.injEq] at h;subst h;refine⟨rfl,fun d x h=>by simp at h;rw[h.1],fun s' g' x' hu=>?_⟩
         simp only[Option.map_eq_some_iff] at hu;obtain⟨⟨s2,g2⟩,hu1,hu2⟩:=hu
         simp only[Prod.mk.injEq] at hu2;obtain⟨rfl,rfl,rfl⟩:=hu2
         subst hu1;have zA:st.ev s=.own s2 g2:=by
          unfold dE at mQ;split at mQ
          ·split at mQ
           ·split at mQ
            ·split at mQ
             ·split at mQ<;>simp at mQ
             ·rename_i s3 g3 hs3;split at mQ
              ·split at mQ
               ·simp only[Option.some.injEq,Prod.mk.injEq] at mQ;obtain⟨⟨rfl,rfl⟩,_⟩:=mQ
                exact hs3
               ·cases mQ
              ·cases mQ
             ·split at mQ<;>simp at mQ
             ·cases mQ
            ·cases mQ
           ·cases mQ
          ·cases mQ
         refine⟨?_,s, ?_,.inr (.inl zA)⟩
         ·obtain⟨callee,args,sQ⟩:=c
          simp only at hc hx
          subst hc;simp only[lZ,hx];cases s with
          | const v =>
            simp[St.ev] at zA
          | _=>rfl
         ·simp only[Op.operands,Call.operands,hc];simp
          rw[← Array.mem_toList_iff,hx];simp
      ·cases h
     ·cases h
  ·rename_i hc;split at h
   ·rename_i x T hx hT;cases mQ:Bb P st T (st.ev x) with
    | none=>simp[mQ] at h
    | some u =>
      simp only[mQ,Option.map_some,Option.some.injEq] at h;subst h;refine⟨rfl,nofun,fun s' g' x' hu=>?_⟩
      simp only[Option.map_eq_some_iff,Prod.mk.injEq] at hu;obtain⟨p,rfl,rfl,rfl,_⟩:=hu
      obtain⟨o,n,zA⟩:=z8 mQ
      refine⟨?_,x, ?_,.inr (.inr (.inr (.inr ⟨o,n,zA⟩)))⟩
      ·obtain⟨callee,args,sQ⟩:=c
       simp only at hc
       subst hc;rfl
      ·simp only[Op.operands,Call.operands,hc];simp
       rw[← Array.mem_toList_iff,hx];simp
   ·cases h
  ·cases h
 case store T x y =>
  simp only[dN] at h;cases hs:pK P st T (st.ev x) (st.ev y) with
  | none=>simp[hs] at h
  | some u =>
    obtain⟨s,g,e'⟩:=u
    simp only[hs,Option.map_some,Option.some.injEq] at h;subst h;refine⟨rfl,fun d x h=>by simp at h,fun s' g' x' hu=>⟨rfl,x,by simp[Op.operands],.inl ?_⟩⟩
    simp only[Option.some.injEq,Prod.mk.injEq] at hu;obtain⟨rfl,rfl,_⟩:=hu
    unfold pK at hs;split at hs
    ·rename_i s1 g1 o1 hp;refine⟨o1, ?_⟩
     rw[hp];split at hs
     ·split at hs
      ·split at hs
       ·split at hs
        ·simp only[Option.some.injEq,Prod.mk.injEq] at hs;rw[hs.1,hs.2.1]
        ·cases hs
       ·split at hs
        ·simp only[Option.some.injEq,Prod.mk.injEq] at hs;rw[hs.1,hs.2.1]
        ·cases hs
       ·cases hs
      ·cases hs
     ·cases hs
    ·cases hs
 case alloc T =>
  simp only[dN] at h;cases dst with
  | none=>simp[cH] at h
  | some d=>cases hz:eF P T with
    | none=>simp[hz,cH] at h
    | some z=>simp only[hz,cH,Option.some.injEq] at h;subst h;exact⟨rfl,fun d x h=>by simp at h;rw[h.1],fun s g x h=>by simp at h⟩
 case box T x =>
  simp only[dN] at h;cases dst with
  | none=>simp[cH] at h
  | some d =>
    simp only[cH] at h;split at h
    ·simp only[Option.some.injEq] at h;subst h;exact⟨rfl,fun d x h=>by simp at h;rw[h.1],fun s g x h=>by simp at h⟩
    ·cases h
 case buildSlice T n parts =>
  simp only[dN] at h;cases dst with
  | none=>simp[cH] at h
  | some d=>cases hs:dQ P T with
    | none=>simp[hs,cH] at h
    | some t=>cases hz:eF P t.1 with
      | none=>simp[hs,hz,cH] at h
      | some z =>
        simp only[hs,hz,cH] at h;split at h
        ·cases hf:gJ (fun i=>some (i * t.2.1,t.2.1)) ((List.range n).flatMap fun _=>z.map .v) (parts.toList.map fun p=>(p.1,st.ev p.2)) with
         | none=>simp[hf] at h
         | some cs=>simp only[hf,Option.some.injEq] at h;subst h;exact⟨rfl,fun d x h=>by simp at h;rw[h.1],fun s g x h=>by simp at h⟩
        ·cases h
 case makeSlice T l c =>
  simp only[dN] at h;cases dst with
  | none=>simp[cH] at h
  | some d=>cases hs:dQ P T with
    | none=>simp[hs,cH] at h
    | some t=>cases hz:eF P t.1 with
      | none=>simp[hs,hz,cH] at h
      | some z =>
        simp only[hs,hz,cH] at h;split at h
        ·split at h
         ·simp only[Option.some.injEq] at h;subst h;exact⟨rfl,fun d x h=>by simp at h;rw[h.1],fun s g x h=>by simp at h⟩
         ·cases h
        ·cases h
 case makeMap T r =>
  cases r with
  | none =>
    simp only[dN] at h;cases dst with
    | none=>simp[cH] at h
    | some d=>simp only[cH,Option.some.injEq] at h;subst h;exact⟨rfl,fun d x h=>by simp at h;rw[h.1],fun s g x h=>by simp at h⟩
  | some r =>
    simp only[dN] at h;obtain⟨h1,h2,h3⟩:=val _ h
    exact⟨h1,h2,fun s g x hu=>absurd hu (h3 s g x)⟩
 case mapUpdate T m x y =>
  simp only[dN] at h;cases hs:sX P st T (st.ev m) (st.ev x) (st.ev y) with
  | none=>simp[hs] at h
  | some u =>
    obtain⟨s,g,e'⟩:=u
    simp only[hs,Option.map_some,Option.some.injEq] at h;subst h;refine⟨rfl,fun d x h=>by simp at h,fun s' g' x' hu=>⟨rfl,m,by simp[Op.operands],.inr (.inr (.inl ?_))⟩⟩
    simp only[Option.some.injEq,Prod.mk.injEq] at hu;obtain⟨rfl,rfl,_⟩:=hu
    unfold sX at hs;split at hs
    ·rename_i s1 g1 hp;rw[hp];split at hs
     ·split at hs
      ·simp only[Option.some.injEq,Prod.mk.injEq] at hs;rw[hs.1,hs.2.1]
      ·cases hs
     ·cases hs
    ·cases hs
 all_goals
  simp only[dN] at h;obtain⟨h1,h2,h3⟩:=val _ h
  exact⟨h1,h2,fun s g x hu=>absurd hu (h3 s g x)⟩
noncomputable def qZ (P:Program) (call:Nat→List AV→Option AV) (ops:Array Oper) (o:Oper) (st:St):Option qW :=
 match gv ops st o.guard with
 | some b=>if b=true then dN P call o st else some { dst:=o.dst,val:=.v undef }
 | none=>none
theorem En (o:Oper):cC P call ops o st=(qZ P call ops o st).map fun e=>e.apply st:=by
 unfold cC qZ;cases gv ops st o.guard with
 | none=>rfl
 | some b=>cases b<;>rfl
theorem oJ {o:Oper} {e:qW} (h:qZ P call ops o st=some e) :
 e.dst=o.dst∧(∀d x,e.new=some (d,x)→o.dst=some d)∧(∀s g x,e.dP=some (s,g,x)→lZ ops o=3∧∃p∈o.op.operands,(∃off,st.ev p=.ptr s g off)∨st.ev p=.own s g∨st.ev p=.mp s g∨(∃cs,st.ev p=.agg cs∧.own s g∈cs)∨∃o n,st.ev p=.vw s g o n):=by
 unfold qZ at h;split at h
 ·split at h
  ·exact NO h
  ·simp only[Option.some.injEq] at h;subst h;exact⟨rfl,fun d x h=>by simp at h,fun s g x h=>by simp at h⟩
 ·cases h
theorem Sz (hp:AY st) {x y:Oper} {ex:qW} (mQ:rS ops x y=true∨rS ops y x=true) (Lf:∀t,lX st.aQ (st.env t)) (hx:qZ P call ops x st=some ex) :
 qZ P call ops y (ex.apply st)=qZ P call ops y st:=by
 obtain⟨sd,sn,su⟩:=oJ hx
 have YI:(∀d,x.dst=some d→d ∉ y.looksAt ops)∧(∀d,x.dst=some d→y.dst≠some d):=by
  rcases mQ with h|h
  ·simp only[rS,Bool.and_eq_true] at h;obtain⟨h1,h2,_⟩:=Oper.apart_spec h.1
   exact⟨h1,h2⟩
  ·simp only[rS,Bool.and_eq_true] at h;obtain⟨_,h2,h3⟩:=Oper.apart_spec h.1
   exact⟨h3,fun d hd hy=>h2 d hy hd⟩
 have henv:∀t,t∈y.looksAt ops→(ex.apply st).env t=st.env t:=fun t ht=>by
  rw[oA,if_neg];intro h;rw[sd] at h;exact YI.1 t h ht
 have AB:∀p∈y.op.operands,(ex.apply st).ev p=st.ev p:=fun p hp=>by
  cases p with
  | tmp t=>exact henv t (by unfold Oper.looksAt;exact List.mem_append_left _ (List.mem_filterMap.2 ⟨.tmp t,by simpa using hp,rfl⟩))
  | _=>rfl
 have S9:gv ops (ex.apply st) y.guard=gv ops st y.guard:=S7 fun j want d hg hd=>henv d (by
  unfold Oper.looksAt;apply List.mem_append_right
  rw[hg];simp[hd])
 have hcnt:∀d,y.dst=some d→(ex.apply st).aQ d=st.aQ d:=fun d hd=>by
  rw[kZ];split
  ·rename_i d' z hn
   have:=sn d' z hn
   rw[if_neg];rintro rfl
   exact YI.2 d this hd
  ·rfl
 have Tu:∀p∈y.op.operands,lX st.aQ (st.ev p):=fun p hp=>by
  cases p with
  | tmp t=>exact Lf t
  | const v=>exact⟨⟨fun _ _=>False,fun _ _=>undef,st.aQ⟩,v,rfl,.v v⟩
  | global g=>exact⟨⟨fun _ _=>False,fun _ _=>undef,st.aQ⟩,_,rfl,.v _⟩
  | func f=>exact⟨⟨fun _ _=>False,fun _ _=>undef,st.aQ⟩,_,rfl,.v _⟩
 have pQ:dN P call y (ex.apply st)=dN P call y st:=by
  by_cases h3:lZ ops x=3
  ·refine HF (ops:=ops) ?_ AB hcnt
   have hle:lZ ops y=0∨lZ ops y=1∨lZ ops y=2∨lZ ops y=3∨lZ ops y=4:=by
    unfold lZ;split<;>(try split)<;>(try split)<;>(try split)<;>simp
   rcases mQ with h|h<;>simp only[rS,Bool.and_eq_true,h3] at h<;>rcases hle with e|e|e|e|e<;>simp[e] at h ⊢
  ·have hnu:ex.dP=none:=by
    cases hu:ex.dP with
    | none=>rfl
    | some sgx=>exact absurd (su sgx.1 sgx.2.1 sgx.2.2 hu).1 h3
   refine NN hp AB Tu (fun s g aZ=>?_) hcnt
   rw[sF,hnu];split
   ·rename_i d z hn;rw[if_neg];rintro⟨rfl,h,_⟩
    omega
   ·rfl
 unfold qZ;rw[S9,pQ]
theorem HG {o:Oper} {e:qW} {s g:Nat} {z:Option mV} (Lf:∀t,lX st.aQ (st.env t)) (h:qZ P call ops o st=some e) (hu:e.dP=some (s,g,z)):g<st.aQ s:=by
 obtain⟨_,_,su⟩:=oJ h
 obtain⟨_,p,hp,hv⟩:=su s g z hu
 have Tu:lX st.aQ (st.ev p):=by
  cases p with
  | tmp t=>exact Lf t
  | const v=>exact⟨⟨fun _ _=>False,fun _ _=>undef,st.aQ⟩,v,rfl,.v v⟩
  | global g=>exact⟨⟨fun _ _=>False,fun _ _=>undef,st.aQ⟩,_,rfl,.v _⟩
  | func f=>exact⟨⟨fun _ _=>False,fun _ _=>undef,st.aQ⟩,_,rfl,.v _⟩
 rcases hv with ⟨off,hv⟩|hv|hv|⟨cs,hv,hm⟩|⟨o,n,hv⟩
 ·rw[hv] at Tu;exact Tu.ptr
 ·rw[hv] at Tu;exact Tu.own
 ·rw[hv] at Tu;exact Tu.mp
 ·rw[hv] at Tu;exact (Tu.agg _ hm).own
 ·rw[hv] at Tu;exact Tu.vw
theorem aCa (hp:AY st) {x y:Oper} (mQ:rS ops x y=true) (Lf:∀t,lX st.aQ (st.env t)) {s1 s2:St} (hx:cC P call ops x st=some s1) (hy:cC P call ops y s1=some s2) :
 ∃s3,cC P call ops y st=some s3∧cC P call ops x s3=some s2:=by
 rw[En] at hx hy;cases hex:qZ P call ops x st with
 | none=>simp[hex] at hx
 | some ex =>
   simp only[hex,Option.map_some,Option.some.injEq] at hx;subst hx;rw[Sz hp (.inl mQ) Lf hex] at hy;cases YJ:qZ P call ops y st with
   | none=>simp[YJ] at hy
   | some ey =>
     simp only[YJ,Option.map_some,Option.some.injEq] at hy;subst hy;refine⟨ey.apply st,by rw[En,YJ];rfl, ?_⟩
     rw[En,Sz hp (.inr mQ) Lf YJ,hex];simp only[Option.map_some,Option.some.injEq];obtain⟨dx,nx,ux⟩:=oJ hex
     obtain⟨dy,ny,uy⟩:=oJ YJ
     have hd:∀d,x.dst=some d→y.dst≠some d:=by
      simp only[rS,Bool.and_eq_true] at mQ;exact (Oper.apart_spec mQ.1).2.1
     have Bf:¬(ex.dP≠none∧ey.dP≠none):=by
      rintro⟨h1,h2⟩
      cases hu:ex.dP with
      | none=>exact h1 hu
      | some a=>cases hv:ey.dP with
        | none=>exact h2 hv
        | some b =>
          have e1:=(ux a.1 a.2.1 a.2.2 hu).1
          have e2:=(uy b.1 b.2.1 b.2.2 hv).1
          simp[rS,e1,e2] at mQ
     apply S8
     ·funext t
      rw[oA,oA,oA,oA,dx,dy];by_cases h1:x.dst=some t
      ·rw[if_pos h1,if_pos h1,if_neg (hd t h1)]
      ·rw[if_neg h1,if_neg h1]
     ·funext s g
      rw[sF,sF,sF,sF];have cx:∀d z,ey.new=some (d,z)→(ex.apply st).aQ d=st.aQ d:=fun d z hn=>by
       rw[kZ];split
       ·rename_i d' z' Gd
        rw[if_neg];rintro rfl
        exact hd _ (nx _ _ Gd) (ny _ _ hn)
       ·rfl
      have cy:∀d z,ex.new=some (d,z)→(ey.apply st).aQ d=st.aQ d:=fun d z hn=>by
       rw[kZ];split
       ·rename_i d' z' Gd
        rw[if_neg];rintro rfl
        exact hd _ (nx _ _ hn) (ny _ _ Gd)
       ·rfl
      cases z9:ex.new with
      | none =>
        cases RI:ey.new with
        | none =>
          cases hux:ex.dP with
          | none=>rfl
          | some a=>cases huy:ey.dP with
            | none=>rfl
            | some b=>exact absurd ⟨by rw[hux];simp,by rw[huy];simp⟩ Bf
        | some b =>
          obtain⟨d,z⟩:=b
          simp only[cx d z RI];cases hux:ex.dP with
          | none=>rfl
          | some a =>
            obtain⟨s0,g0,e0⟩:=a
            have aZ:=HG Lf hex hux
            cases huy:ey.dP with
            | none =>
              simp only
              by_cases h1:s=d∧st.aQ d≤g∧g-st.aQ d<z.length
              ·rw[if_neg (by obtain⟨rfl,ha,hb⟩:=h1;rintro⟨rfl,rfl⟩;omega),if_pos h1,if_pos h1]
              ·rw[if_neg h1,if_neg h1]
            | some b=>exact absurd ⟨by rw[hux];simp,by rw[huy];simp⟩ Bf
      | some a =>
        obtain⟨d,z⟩:=a
        cases RI:ey.new with
        | none =>
          simp only[cy d z z9];cases huy:ey.dP with
          | none=>rfl
          | some a =>
            obtain⟨s0,g0,e0⟩:=a
            have aZ:=HG Lf YJ huy
            cases hux:ex.dP with
            | none =>
              simp only
              by_cases h1:s=d∧st.aQ d≤g∧g-st.aQ d<z.length
              ·rw[if_pos h1,if_neg (by obtain⟨rfl,ha,hb⟩:=h1;rintro⟨rfl,rfl⟩;omega),if_pos h1]
              ·rw[if_neg h1,if_neg h1]
            | some b=>exact absurd ⟨by rw[hux];simp,by rw[huy];simp⟩ Bf
        | some b =>
          obtain⟨d',z'⟩:=b
          simp only[cy d z z9,cx d' z' RI];have A0:d≠d':=by
           rintro rfl
           exact hd _ (nx _ _ z9) (ny _ _ RI)
          cases hux:ex.dP with
          | none =>
            cases huy:ey.dP with
            | none =>
              simp only
              by_cases h1:s=d∧st.aQ d≤g∧g-st.aQ d<z.length
              ·rw[if_pos h1,if_pos h1,if_neg (fun h=>A0 (h1.1.symm.trans h.1))]
              ·rw[if_neg h1,if_neg h1]
            | some b =>
              obtain⟨s0,g0,e0⟩:=b
              have aZ:=HG Lf YJ huy
              simp only
              by_cases h1:s=d∧st.aQ d≤g∧g-st.aQ d<z.length
              ·rw[if_pos h1,if_pos h1,if_neg (fun h=>A0 (h1.1.symm.trans h.1)),if_neg (by obtain⟨rfl,ha,hb⟩:=h1;rintro⟨rfl,rfl⟩;omega)]
              ·rw[if_neg h1,if_neg h1]
          | some a =>
            obtain⟨s0,g0,e0⟩:=a
            have aZ:=HG Lf hex hux
            cases huy:ey.dP with
            | none =>
              simp only
              by_cases h1:s=d∧st.aQ d≤g∧g-st.aQ d<z.length
              ·rw[if_pos h1,if_pos h1,if_neg (fun h=>A0 (h1.1.symm.trans h.1))]
              ·rw[if_neg h1,if_neg h1];by_cases h2:s=d'∧st.aQ d'≤g∧g-st.aQ d'<z'.length
               ·rw[if_pos h2,if_neg (by obtain⟨rfl,ha,hb⟩:=h2;rintro⟨rfl,rfl⟩;omega),if_pos h2]
               ·rw[if_neg h2,if_neg h2]
            | some b=>exact absurd ⟨by rw[hux];simp,by rw[huy];simp⟩ Bf
     ·funext s
      cases z9:ex.new with
      | none=>cases RI:ey.new<;>simp only[kZ,z9,RI]
      | some a =>
        obtain⟨d,z⟩:=a
        cases RI:ey.new with
        | none=>simp only[kZ,z9,RI]
        | some b =>
          obtain⟨d',z'⟩:=b
          have A0:d≠d':=by
           rintro rfl
           exact hd _ (nx _ _ z9) (ny _ _ RI)
          simp only[kZ,z9,RI];rw[if_neg A0,if_neg (Ne.symm A0)];by_cases h1:s=d
          ·subst h1;rw[if_neg A0,if_pos rfl,if_neg A0]
          ·rw[if_neg h1,if_neg h1]
def Hm (st st':St) (x:AV):Prop:=∀s g,keyOf x=some (some (s,g))→st'.heap s g=st.heap s g
theorem UI {x:AV} (h:Hm st st' x):pX st' x=pX st x:=by
 cases x<;>simp only[pX]
 rw[h _ _ rfl]
theorem vH {x:AV} (h:Hm st st' x):aT st' x=aT st x:=by
 cases x
 case own=>simp only[aT,h _ _ rfl]
 case vw=>simp only[aT,h _ _ rfl]
 case v y =>
  cases y
  case slice p n c=>cases p<;>cases n<;>cases c<;>rfl
  all_goals rfl
 all_goals rfl
theorem Xp {T:Nat} {x i:AV} (h:Hm st st' x):bD P st' T x i=bD P st T x i:=by
 unfold bD;cases x<;>try rfl
 simp only[h _ _ rfl]
theorem UJ {T:Nat} {x y:AV} (h:Hm st st' x):pK P st' T x y=pK P st T x y:=by
 unfold pK;cases x<;>try rfl
 simp only[h _ _ rfl]
theorem UK {T:Nat} {x:AV} {lo hi:Option Operand} (hx:Hm st st' x) (hl:∀p,lo=some p→st'.ev p=st.ev p) (Aa:∀p,hi=some p→st'.ev p=st.ev p):dL P st' T x lo hi=dL P st T x lo hi :=
 Xm (fun s g h=>by
  rcases h with ⟨o,rfl⟩|rfl|⟨o,n,rfl⟩<;>exact hx _ _ rfl) hl Aa
theorem NP {T:Nat} {s x:AV} (hs:Hm st st' s) (hx:Hm st st' x):dE P st' T s x=dE P st T s x:=by
 unfold dE;rw[vH hx];cases s
 case own=>simp only[hs _ _ rfl]
 case v y =>
  cases y
  case slice p n c=>cases p<;>cases n<;>cases c<;>rfl
  all_goals rfl
 all_goals rfl
theorem NQ {T:Nat} {s x:AV} (hs:Hm st st' s) (hx:Hm st st' x):mX P st' T s x=mX P st T s x:=by
 unfold mX;rw[vH hx];cases dQ P T with
 | none=>rfl
 | some t=>cases aT st x with
   | none=>rfl
   | some mn =>
     cases s<;>try rfl
     case vw s g o n =>
      cases o with
      | zero=>simp only[hs _ _ rfl]
      | succ o=>rfl
theorem UL {r:AV} {dst:Option Nat} (hc:∀d,dst=some d→st'.aQ d=st.aQ d):iP r st' dst=iP r st dst:=by
 unfold iP;cases dst with
 | none=>rfl
 | some d=>simp only[hc d rfl]
theorem UM {g:Nat} {x:AV} {args:List AV} {dst:Option Nat} (hx:Hm st st' x) (hc:∀d,dst=some d→st'.aQ d=st.aQ d):lA call g (x :: args) st' dst=lA call g (x :: args) st dst:=by
 unfold lA;split
 ·rename_i s k rest heq;simp only[List.cons.injEq] at heq;obtain⟨rfl,rfl⟩:=heq
  rw[hx _ _ rfl];cases dst with
  | none=>rfl
  | some d=>simp only[hc d rfl]
 ·split
  ·rename_i hf;unfold aN;rw[if_pos hf,if_pos hf];have h2:∀r,iP r st' dst=iP r st dst:=fun r=>UL hc
   simp only[h2]
  ·rfl
theorem BF {o:Oper} {aS:List Nat} (h:gQ o=some aS):o.guard=none:=by
 unfold gQ at h;split at h
 ·cases h
 ·assumption
theorem HH {o:Oper} {aS:List Nat} (ha:gQ o=some aS):qZ P call ops o st=dN P call o st:=by
 unfold qZ;rw[BF ha];rfl
inductive Ta:Op→List Nat→Prop
 | load (T a:Nat):Ta (.load T (.tmp a)) [a]
 | store (T a:Nat) (x:Operand):Ta (.store T (.tmp a) x) [a]
 | indexAddr (T a:Nat) (x:Operand):Ta (.indexAddr T (.tmp a) x) [a]
 | slice (T a:Nat) (lo hi mx:Option Operand):Ta (.slice T (.tmp a) lo hi mx) [a]
 | len (a:Nat) (args:Array Operand) (sQ:Array Nat) (h:args.toList=[.tmp a]):Ta (.call ⟨.builtin .len,args,sQ⟩) [a]
 | append (a b:Nat) (args:Array Operand) (sQ:Array Nat) (h:args.toList=[.tmp a,.tmp b]):Ta (.call ⟨.builtin .append,args,sQ⟩) [a,b]
 | mv (g a:Nat) (r:List Operand) (args:Array Operand) (sQ:Array Nat) (h:args.toList=.tmp a :: r) (hg:Ext.mv g=true):Ta (.call ⟨.value (.func g),args,sQ⟩) [a]
theorem Oj {o:Oper} {aS:List Nat} (h:gQ o=some aS):Ta o.op aS:=by
 unfold gQ at h;split at h
 ·cases h
 ·split at h
  ·rename_i T a ho;simp only[Option.some.injEq] at h;subst h;rw[ho];exact .load T a
  ·rename_i T a x ho;simp only[Option.some.injEq] at h;subst h;rw[ho];exact .store T a x
  ·rename_i T a x ho;simp only[Option.some.injEq] at h;subst h;rw[ho];exact .indexAddr T a x
  ·rename_i T a lo hi mx ho;simp only[Option.some.injEq] at h;subst h;rw[ho];exact .slice T a lo hi mx
  ·rename_i args sQ ho;split at h
   ·rename_i a hl;simp only[Option.some.injEq] at h;subst h;rw[ho];exact .len a args sQ hl
   ·cases h
  ·rename_i args sQ ho;split at h
   ·rename_i a b hl;simp only[Option.some.injEq] at h;subst h;rw[ho];exact .append a b args sQ hl
   ·cases h
  ·rename_i g args sQ ho;split at h
   ·rename_i a r hl;split at h
    ·rename_i hg;simp only[Option.some.injEq] at h;subst h;rw[ho];exact .mv g a r args sQ hl hg
    ·cases h
   ·cases h
  ·cases h
theorem A1 {T s g:Nat} {p x:AV} {e':mV} (hs:pK P st T p x=some (s,g,e')):∃o,p=.ptr s g o:=by
 unfold pK at hs;split at hs
 ·rename_i s1 g1 o1;split at hs
  ·split at hs
   ·split at hs
    ·split at hs
     ·simp only[Option.some.injEq,Prod.mk.injEq] at hs;obtain⟨rfl,rfl,_⟩:=hs;exact⟨_,rfl⟩
     ·cases hs
    ·split at hs
     ·simp only[Option.some.injEq,Prod.mk.injEq] at hs;obtain⟨rfl,rfl,_⟩:=hs;exact⟨_,rfl⟩
     ·cases hs
    ·cases hs
   ·cases hs
  ·cases hs
 ·cases hs
theorem UN {T s g:Nat} {p x:AV} {r:mV} (mQ:dE P st T p x=some (some (s,g),r)):p=.own s g:=by
 unfold dE at mQ;split at mQ
 ·split at mQ
  ·split at mQ
   ·split at mQ
    ·split at mQ<;>simp at mQ
    ·rename_i s3 g3;split at mQ
     ·split at mQ
      ·simp only[Option.some.injEq,Prod.mk.injEq] at mQ;obtain⟨⟨rfl,rfl⟩,_⟩:=mQ
       rfl
      ·cases mQ
     ·cases mQ
    ·split at mQ<;>simp at mQ
    ·cases mQ
   ·cases mQ
  ·cases mQ
 ·cases mQ
theorem Rc {o:Oper} {aS:List Nat} {e:qW} (ha:gQ o=some aS) (h:qZ P call ops o st=some e) :
 ∀s g z,e.dP=some (s,g,z)→∃a∈aS,keyOf (st.env a)=some (some (s,g)):=by
 rw[HH ha] at h;have hk:=Oj ha
 clear ha
 obtain⟨dst,op,type,pos,after,guard⟩:=o
 have val:∀(v:Option AV),(v.map fun x=>({ dst:=dst,val:=x }:qW))=some e→e.dP=none:=fun v hv=>by
  cases v with
  | none=>cases hv
  | some v=>simp only[Option.map_some,Option.some.injEq] at hv;subst hv;rfl
 intro s g z hu;cases hk
 case load T a=>simp only[dN] at h;rw[val _ h] at hu;cases hu
 case indexAddr T a x=>simp only[dN] at h;rw[val _ h] at hu;cases hu
 case slice T a lo hi mx=>simp only[dN] at h;rw[val _ h] at hu;cases hu
 case len a args sQ hl =>
  simp only[dN,iU,hl] at h;split at h
  ·split at h
   ·simp only[Option.some.injEq] at h;subst h;cases hu
   ·cases h
  ·cases h
 case store T a x =>
  simp only[dN] at h;cases hs:pK P st T (st.ev (.tmp a)) (st.ev x) with
  | none=>simp[hs] at h
  | some u =>
    obtain⟨s',g',e'⟩:=u
    simp only[hs,Option.map_some,Option.some.injEq] at h;subst h;simp only[Option.some.injEq,Prod.mk.injEq] at hu;obtain⟨rfl,rfl,_⟩:=hu
    obtain⟨o1,ho1⟩:=A1 hs
    exact⟨a,by simp,by rw[show st.env a=st.ev (.tmp a) from rfl,ho1];rfl⟩
 case append a b args sQ hl =>
  simp only[dN,iU,hl] at h;cases dst with
  | none=>simp[cH] at h
  | some d =>
    simp only[cH] at h;split at h
    ·rename_i s0 x0 T T' heq _
     simp only[List.cons.injEq,and_true] at heq;obtain⟨rfl,rfl⟩:=heq
     split at h
     ·split at h
      ·cases mQ:mX P st T (st.ev (.tmp a)) (st.ev (.tmp b)) with
       | none=>simp[mQ] at h
       | some u =>
       simp only[mQ,Option.map_some,Option.some.injEq] at h;subst h;simp only[Option.some.injEq,Prod.mk.injEq] at hu;obtain⟨rfl,rfl,rfl⟩:=hu
       obtain⟨n0,zA⟩:=Xo mQ
       exact⟨a,by simp,by rw[show st.env a=st.ev (.tmp a) from rfl,zA];rfl⟩
      split at h
      ·simp only[Option.some.injEq] at h;subst h;cases hu
      cases mQ:dE P st T (st.ev (.tmp a)) (st.ev (.tmp b)) with
      | none=>simp[mQ] at h
      | some ur =>
        obtain⟨u,r⟩:=ur
        simp only[mQ,Option.some.injEq] at h;subst h;cases u with
        | none=>cases hu
        | some p =>
          simp only[Option.map_some,Option.some.injEq,Prod.mk.injEq] at hu;obtain⟨rfl,rfl,_⟩:=hu
          exact⟨a,by simp,by rw[show st.env a=st.ev (.tmp a) from rfl,UN mQ];rfl⟩
     ·cases h
    ·cases h
 case mv g' a r args sQ hl hg =>
  simp only[dN,iU,mY] at h;rw[if_pos hg] at h;obtain⟨_,_,h3⟩:=Oi h
  have:=h3 s g z hu
  rw[hl] at this;simp only[List.map_cons,List.head?_cons,Option.some.injEq,St.ev] at this;exact⟨a,by simp,by rw[this];rfl⟩
theorem mem_congr {o:Oper} {aS:List Nat} (ha:gQ o=some aS) (AB:∀p∈o.op.operands,st'.ev p=st.ev p) (hh:∀a∈aS,Hm st st' (st.env a)) (hc:∀d,o.dst=some d→st'.aQ d=st.aQ d) :
 qZ P call ops o st'=qZ P call ops o st:=by
 rw[HH ha,HH ha];have hk:=Oj ha
 clear ha
 obtain⟨dst,op,type,pos,after,guard⟩:=o
 simp only at hk AB hc
 cases hk
 case load T a =>
  have h1:st'.env a=st.env a:=AB (.tmp a) (by simp[Op.operands])
  simp only[dN,iO,St.ev,h1,UI (hh a (by simp))]
 case store T a x =>
  have h1:st'.env a=st.env a:=AB (.tmp a) (by simp[Op.operands])
  have h2:=AB x (by simp[Op.operands])
  have h3:st'.ev (.tmp a)=st.ev (.tmp a):=h1
  simp only[dN,h2,h3];rw[show st.ev (.tmp a)=st.env a from rfl,UJ (hh a (by simp))]
 case indexAddr T a x =>
  have h1:st'.env a=st.env a:=AB (.tmp a) (by simp[Op.operands])
  have h2:=AB x (by simp[Op.operands])
  have h3:st'.ev (.tmp a)=st.ev (.tmp a):=h1
  simp only[dN,iO,h2,h3];rw[show st.ev (.tmp a)=st.env a from rfl,Xp (hh a (by simp))]
 case slice T a lo hi mx =>
  have h1:st'.env a=st.env a:=AB (.tmp a) (by simp[Op.operands])
  have h3:st'.ev (.tmp a)=st.ev (.tmp a):=h1
  have hl:∀p,lo=some p→st'.ev p=st.ev p:=fun p hp=>AB p (by subst hp;simp[Op.operands])
  have Aa:∀p,hi=some p→st'.ev p=st.ev p:=fun p hp=>AB p (by subst hp;simp[Op.operands])
  have hm:∀p,mx=some p→st'.ev p=st.ev p:=fun p hp=>AB p (by subst hp;simp[Op.operands])
  have hS:=UK (P:=P) (T:=T) (hh a (by simp)) hl Aa
  cases mx with
  | none =>
    simp only[dN,iO,h3];rw[show st.ev (.tmp a)=st.env a from rfl,hS]
  | some m =>
    cases hi with
    | none=>rfl
    | some h =>
      simp only[dN,iO,h3];rw[Sy (fun s g hx=>hh a (by simp) s g (by rw[show st.env a=st.ev (.tmp a) from rfl,hx];rfl)) hl (Aa h rfl) (hm m rfl)]
 case len a args sQ hl =>
  have h1:st'.env a=st.env a:=AB (.tmp a) (by simp[Op.operands,Call.operands,← Array.mem_toList_iff,hl])
  have h3:st'.ev (.tmp a)=st.ev (.tmp a):=h1
  have hv:aT st' (st'.ev (.tmp a))=aT st (st.ev (.tmp a)):=by rw[h3];exact vH (hh a (by simp))
  simp only[dN,iU,hl];cases sQ.toList with
  | nil=>rfl
  | cons T r=>cases r with
    | nil=>simp only[hv]
    | cons _ _=>rfl
 case append a b args sQ hl =>
  have h1:st'.ev (.tmp a)=st.ev (.tmp a):=AB (.tmp a) (by simp[Op.operands,Call.operands,← Array.mem_toList_iff,hl])
  have h2:st'.ev (.tmp b)=st.ev (.tmp b):=AB (.tmp b) (by simp[Op.operands,Call.operands,← Array.mem_toList_iff,hl])
  have hV:∀T,mX P st' T (st.ev (.tmp a)) (st.ev (.tmp b))=mX P st T (st.ev (.tmp a)) (st.ev (.tmp b)):=fun T=>NQ (hh a (by simp)) (hh b (by simp))
  have hA:∀T,dE P st' T (st.ev (.tmp a)) (st.ev (.tmp b))=dE P st T (st.ev (.tmp a)) (st.ev (.tmp b)):=fun T=>NP (hh a (by simp)) (hh b (by simp))
  simp only[dN,iU,hl];cases dst with
  | none=>rfl
  | some d =>
    simp only[cH,hc d rfl];cases sQ.toList with
    | nil=>rfl
    | cons T r=>cases r with
      | nil=>rfl
      | cons T' r'=>cases r' with
        | nil =>
          have hn:Gg P st' T (st'.ev (.tmp a)) (st'.ev (.tmp b))=Gg P st T (st.ev (.tmp a)) (st.ev (.tmp b)):=by
           have h3:aT st' (st.ev (.tmp b))=aT st (st.ev (.tmp b)):=vH (hh b (by simp))
           simp only[Gg,h1,h2,h3]
          simp only[];rw[hn,h1,h2,hA,hV]
        | cons _ _=>rfl
 case mv g' a r args sQ hl hg =>
  have he:∀p∈args.toList,st'.ev p=st.ev p:=fun p hp=>AB p (by simp[Op.operands,Call.operands,← Array.mem_toList_iff,hp])
  have h1:args.toList.map st'.ev=args.toList.map st.ev:=List.map_congr_left he
  simp only[dN,iU,mY];rw[if_pos hg,if_pos hg,h1,hl];simp only[List.map_cons];exact UM (hh a (by simp)) hc
theorem T3 {x y:AV} (h:eY x y∨eY y x) {k k':Nat × Nat} (hx:keyOf x=some (some k)) (hy:keyOf y=some (some k')):k≠k':=by
 unfold eY at h;rw[hx,hy] at h;rcases h with h|h
 ·exact h
 ·exact fun e=>h e.symm
theorem T4 {aQ:Nat→Nat} {x:AV} {s g:Nat} (h:lX aQ x) (hk:keyOf x=some (some (s,g))):g<aQ s:=by
 cases x<;>simp only[keyOf,Option.some.injEq,Prod.mk.injEq,reduceCtorEq] at hk
 ·obtain⟨rfl,rfl⟩:=hk;exact h.ptr
 ·obtain⟨rfl,rfl⟩:=hk;exact h.own
 ·obtain⟨rfl,rfl⟩:=hk;exact h.vw
theorem EJ {x y:Oper} {aS bs:List Nat} {ex:qW} (Lf:∀t,lX st.aQ (st.env t)) (hax:gQ x=some aS) (hay:gQ y=some bs) (YI:∀d,x.dst=some d→d ∉ y.looksAt ops) (kP:∀d,x.dst=some d→y.dst≠some d)
 (hf:∀a∈aS,∀b∈bs,eY (st.env a) (st.env b)∨eY (st.env b) (st.env a)) (hx:qZ P call ops x st=some ex):qZ P call ops y (ex.apply st)=qZ P call ops y st:=by
 obtain⟨sd,sn,_⟩:=oJ hx
 have su:=Rc hax hx
 refine mem_congr hay (fun p hp=>?_) (fun b hb s g hk=>?_) fun d hd=>?_
 ·cases p with
  | tmp t =>
    show (ex.apply st).env t=st.env t
    rw[oA,if_neg];intro h;rw[sd] at h;exact YI t h (by unfold Oper.looksAt;exact List.mem_append_left _ (List.mem_filterMap.2 ⟨.tmp t,by simpa using hp,rfl⟩))
  | _=>rfl
 ·have aZ:=T4 (Lf b) hk
  have hupd:(match ex.dP with|some (s0,g0,y)=>if s=s0∧g=g0 then y else st.heap s g|none=>st.heap s g)=st.heap s g:=by
   cases hu:ex.dP with
   | none=>rfl
   | some u =>
     obtain⟨s0,g0,z⟩:=u
     obtain⟨a,ha,hka⟩:=su s0 g0 z hu
     simp only
     rw[if_neg];rintro⟨rfl,rfl⟩
     exact T3 (hf a ha b hb) hka hk rfl
  rw[sF];split
  ·rename_i d es hn;rw[if_neg (by rintro⟨rfl,h,_⟩;omega)]
   exact hupd
  ·exact hupd
 ·rw[kZ];split
  ·rename_i d' z hn
   rw[if_neg];rintro rfl
   exact kP _ (sn _ _ hn) hd
  ·rfl
theorem T5 {α:Type} {A B C D:Prop} [Decidable A] [Decidable B] [Decidable C] [Decidable D] {na nb uc ud h:α} (h1:A→¬B) (h2:A→¬D) (h3:C→¬B) (h4:C→¬D) :
 (if B then nb else if D then ud else if A then na else if C then uc else h)=(if A then na else if C then uc else if B then nb else if D then ud else h):=by
 by_cases a:A
 ·rw[if_neg (h1 a),if_neg (h2 a),if_pos a,if_pos a]
 ·rw[if_neg a,if_neg a];by_cases c:C
  ·rw[if_neg (h3 c),if_neg (h4 c),if_pos c,if_pos c]
  ·rw[if_neg c,if_neg c]
def Rd (e:qW) (aQ:Nat→Nat) (s g:Nat):Prop:=∃d es,e.new=some (d,es)∧s=d∧aQ d≤g∧g-aQ d<es.length
def UO (e:qW) (s g:Nat):Prop:=∃z,e.dP=some (s,g,z)
def Hn (e:qW) (aQ:Nat→Nat) (g:Nat):Option mV:=match e.new with|some (d,es)=>es[g-aQ d]? | none=>none
def UP (e:qW):Option mV:=match e.dP with|some (_,_,z)=>z|none=>none
theorem At (e:qW) (st:St) (s g:Nat):(e.apply st).heap s g=if Rd e st.aQ s g then Hn e st.aQ g else if UO e s g then UP e else st.heap s g:=by
 have hu:(match e.dP with|some (s0,g0,y)=>if s=s0∧g=g0 then y else st.heap s g|none=>st.heap s g)=if UO e s g then UP e else st.heap s g:=by
  unfold UO UP;cases hu:e.dP with
  | none=>simp
  | some u =>
    obtain⟨s0,g0,z⟩:=u
    simp only
    by_cases h:s=s0∧g=g0
    ·obtain⟨rfl,rfl⟩:=h
     rw[if_pos ⟨rfl,rfl⟩,if_pos ⟨z,rfl⟩]
    ·rw[if_neg h,if_neg];rintro⟨z',h'⟩
     simp only[Option.some.injEq,Prod.mk.injEq] at h'
     exact h ⟨h'.1.symm,h'.2.1.symm⟩
 rw[sF];unfold Rd Hn;cases hn:e.new with
 | none=>simp only;rw[if_neg (by rintro⟨d,es,h,_⟩;cases h)];exact hu
 | some p =>
   obtain⟨d,es⟩:=p
   simp only
   by_cases h:s=d∧st.aQ d≤g∧g-st.aQ d<es.length
   ·rw[if_pos h,if_pos ⟨d,es,rfl,h⟩]
   ·rw[if_neg h,if_neg]
    ·exact hu
    ·rintro⟨d',es',h',h2⟩
     simp only[Option.some.injEq,Prod.mk.injEq] at h'
     obtain⟨rfl,rfl⟩:=h'
     exact h h2
theorem T6 {x y:Oper} {aS bs:List Nat} (Lf:∀t,lX st.aQ (st.env t)) (hax:gQ x=some aS) (hay:gQ y=some bs) (mQ:Oper.apart ops x y=true) (hf:Km st aS bs) {s1 s2:St} (hx:cC P call ops x st=some s1) (hy:cC P call ops y s1=some s2) :
 ∃s3,cC P call ops y st=some s3∧cC P call ops x s3=some s2:=by
 obtain⟨l1,l2,l3⟩:=Oper.apart_spec mQ
 have l2':∀d,y.dst=some d→x.dst≠some d:=fun d hd hx=>l2 d hx hd
 rw[En] at hx hy;cases hex:qZ P call ops x st with
 | none=>simp[hex] at hx
 | some ex =>
   simp only[hex,Option.map_some,Option.some.injEq] at hx;subst hx;rw[EJ Lf hax hay l1 l2 (fun a ha b hb=>.inl (hf a ha b hb)) hex] at hy
   cases YJ:qZ P call ops y st with
   | none=>simp[YJ] at hy
   | some ey =>
     simp only[YJ,Option.map_some,Option.some.injEq] at hy;subst hy;refine⟨ey.apply st,by rw[En,YJ];rfl, ?_⟩
     rw[En,EJ Lf hay hax l3 l2' (fun b hb a ha=>.inr (hf a ha b hb)) YJ,hex]
     simp only[Option.map_some,Option.some.injEq];obtain⟨dx,nx,_⟩:=oJ hex
     obtain⟨dy,ny,_⟩:=oJ YJ
     have ux:=Rc hax hex
     have uy:=Rc hay YJ
     have cx:∀d z,ey.new=some (d,z)→(ex.apply st).aQ d=st.aQ d:=fun d z hn=>by
      rw[kZ];split
      ·rename_i d' z' Gd
       rw[if_neg];rintro rfl
       exact l2 _ (nx _ _ Gd) (ny _ _ hn)
      ·rfl
     have cy:∀d z,ex.new=some (d,z)→(ey.apply st).aQ d=st.aQ d:=fun d z hn=>by
      rw[kZ];split
      ·rename_i d' z' Gd
       rw[if_neg];rintro rfl
       exact l2 _ (nx _ _ hn) (ny _ _ Gd)
      ·rfl
     apply S8
     ·funext t
      rw[oA,oA,oA,oA,dx,dy];by_cases h1:x.dst=some t
      ·rw[if_pos h1,if_pos h1,if_neg (l2 t h1)]
      ·rw[if_neg h1,if_neg h1]
     ·funext s g
      have nyE:Rd ey (ex.apply st).aQ s g↔Rd ey st.aQ s g:=by
       constructor
       ·rintro⟨d,es,h,h2⟩;rw[cx d es h] at h2;exact⟨d,es,h,h2⟩
       ·rintro⟨d,es,h,h2⟩;rw[← cx d es h] at h2;exact⟨d,es,h,h2⟩
      have nxE:Rd ex (ey.apply st).aQ s g↔Rd ex st.aQ s g:=by
       constructor
       ·rintro⟨d,es,h,h2⟩;rw[cy d es h] at h2;exact⟨d,es,h,h2⟩
       ·rintro⟨d,es,h,h2⟩;rw[← cy d es h] at h2;exact⟨d,es,h,h2⟩
      have vyE:Hn ey (ex.apply st).aQ g=Hn ey st.aQ g:=by
       unfold Hn;cases hn:ey.new with
       | none=>rfl
       | some p=>simp only[cx p.1 p.2 hn]
      have vxE:Hn ex (ey.apply st).aQ g=Hn ex st.aQ g:=by
       unfold Hn;cases hn:ex.new with
       | none=>rfl
       | some p=>simp only[cy p.1 p.2 hn]
      rw[At,At,At,At];simp only[nyE,nxE,vyE,vxE];symm
      have idk:∀a s g,keyOf (st.env a)=some (some (s,g))→g<st.aQ s:=fun a s g h=>T4 (Lf a) h
      refine T5 ?_ ?_ ?_ ?_
      ·rintro⟨d,es,h,rfl,_⟩ ⟨d',es',h',rfl,_⟩
       exact l2 _ (nx _ _ h) (ny _ _ h')
      ·rintro⟨d,es,h,rfl,h1,_⟩ ⟨z,h'⟩
       obtain⟨b,_,hb⟩:=uy _ _ _ h'
       have:=idk b _ _ hb
       omega
      ·rintro⟨z,h⟩ ⟨d,es,h',rfl,h1,_⟩
       obtain⟨a,_,ha⟩:=ux _ _ _ h
       have:=idk a _ _ ha
       omega
      ·rintro⟨z,h⟩ ⟨z',h'⟩
       obtain⟨a,ha,hka⟩:=ux _ _ _ h
       obtain⟨b,hb,hkb⟩:=uy _ _ _ h'
       exact T3 (.inl (hf a ha b hb)) hka hkb rfl
     ·funext s
      rw[kZ,kZ];cases z9:ex.new with
      | none=>cases RI:ey.new<;>simp only[kZ,z9,RI]
      | some a =>
        obtain⟨d,z⟩:=a
        cases RI:ey.new with
        | none=>simp only[kZ,z9,RI]
        | some b =>
          obtain⟨d',z'⟩:=b
          have A0:d≠d':=by
           rintro rfl
           exact l2 _ (nx _ _ z9) (ny _ _ RI)
          simp only[kZ,z9,RI];rw[if_neg A0,if_neg (Ne.symm A0)];by_cases h1:s=d
          ·subst h1;rw[if_neg A0,if_pos rfl,if_neg A0]
          ·rw[if_neg h1,if_neg h1]
end
end Go.Ab
end
