/-
  Part 3 of the proof: an evaluator of programs, its soundness, and what functions of this program compute.
-/
import Derived.Test.YtmcjkemalibacaaGreatK2
import Derived.Deep.Upon
set_option linter.all false
set_option maxRecDepth 20000
set_option maxHeartbeats 40000000
section
namespace Go.Ab
open Classical
section
variable {P:Program} {h0:Nat→Obj→Prop} {w0:World} {F:Gb} {nt:Nat} {ρ:Nat→Nat→Value} {st:St} {a:Act} {w:World} {K:Act→World→Prop} {Q:Exit→Act→World→Prop}
theorem Ez {base T ty e:Nat} {ei:TypeInfo} {ez:Value} (hT:P.underlying T=some (.slice e)) (Bs:P.info? e=some ei) (AW:ei.zero=some ez) (Sq:ez.cells.size=ei.size) (Br:0<ei.size)
 (wQ:base≤w.heap.size) {v:Value} {n:Nat} {xs:List Value} (zQ:oE w base e ei.size v n xs)
 {p:Option Addr} {m c:Nat} {news:List Value} (hl:news.length=m * ei.size) (W3:news≠[]→∃ad,p=some ad∧∀(j:Nat) (u:Value),news[j]? = some u→w.cell? (ad.add j)=some u)
 (h1:∀u∈news,u.oneCell'=true) (h63:n+m≤maxLen) (hb:(n+m) * ei.bytes≤140737488355328) :
 ∃v' w',(Builtin.append_ #[T,T] ty #[v,.slice p m c]).run P w=.ok v' w'∧oE w' base e ei.size v' (n+m) (xs++news)∧w.grownBy w' (dF v)∧(∀b,dF v'=some b→dF v=some b∨w.heap.size≤b):=by
 by_cases hm:m=0
 ·subst hm;have hn:news=[]:=List.eq_nil_of_length_eq_zero (by simpa using hl)
  subst hn;refine⟨v,w, ?_,by simpa using zQ,⟨rfl,rfl,rfl,Nat.le_refl _,fun _ _ _=>rfl⟩,fun b hb=>.inl hb⟩
  have hfc:∀(x:Value),(∃p,x=.slice p 0 c)→(Builtin.firstCells ei.size 0 x).run P w=.ok #[] w:=by
   rintro x ⟨p,rfl⟩
   cases p<;>simp[Builtin.firstCells,loadCells,loadCellsFrom]
  rcases zQ.2 with ⟨q,rfl,rfl⟩|⟨g,cap,cur,rfl,_,_,Ty,_⟩
  ·cases q<;>simp[Builtin.append_,aY hT,run_sizeOf w Bs,Builtin.lenOf,hfc _ ⟨p,rfl⟩,storeCells]
  ·simp[Builtin.append_,aY hT,run_sizeOf w Bs,Builtin.lenOf,hfc _ ⟨p,rfl⟩,Ty,storeCells]
 ·have gW:news≠[]:=by
   intro h;subst h;have:0<m * ei.size:=Nat.mul_pos (by omega) Br
   simp at hl
   omega
  obtain⟨ad,rfl,Yd⟩:=W3 gW
  have hlen:(xs++news).length=(n+m) * ei.size:=by rw[List.length_append,zQ.1,hl,Nat.add_mul]
  have grow:∀(ga:Addr) (cap:Nat),cap<n+m→(∀(j:Nat) (u:Value),xs[j]? = some u→w.cell? (ga.add j)=some u)→∃v' w',(Builtin.append_ #[T,T] ty #[.slice (some ga) n cap,.slice (some ad) m c]).run P w=.ok v' w' ∧
   oE w' base e ei.size v' (n+m) (xs++news)∧w.grownBy w' none∧∀b,dF v'=some b→w.heap.size≤b:=by
   intro ga cap ZA holds;have hr:=run_append_grow (P:=P) w T ty e ei ez hT Bs AW ga n cap xs zQ.1 holds ad m c news hl Yd (by omega) (by simp only[maxLen] at h63;omega) (growslice_fits (by omega) hb)
   have hge:=grownCap_ge w (n+m) cap e
   have aGD:=grownCap_le_maxLen w (n+m) cap e h63
   refine⟨_,_,hr,⟨hlen,.inr ⟨w.heap.size,_,_,rfl,wQ,heap_alloc_new w.drew _,hge,aGD, ?_, ?_,by omega⟩⟩,⟨rfl,rfl,rfl,by simp,fun k hk _=>heap_alloc_old w.drew _ hk⟩,fun b hb=>?_⟩
   ·simp only[Array.size_append,List.size_toArray,size_zeroCells,Sq,zQ.1,hl,← Nat.add_mul];congr 1
    omega
   ·simp only[Array.toList_append,List.append_assoc];rw[← List.append_assoc,← hlen];exact List.take_left
   ·rw[kJ (by omega)] at hb
    simp at hb
    omega
  rcases zQ.2 with ⟨q,rfl,rfl⟩|⟨g,cap,cur,rfl,hbg,hg,Ty,C6,HJ,htake,qJ⟩
  ·have hx:xs=[]:=List.eq_nil_of_length_eq_zero (by simpa using zQ.1)
   cases q with
   | none =>
     subst hx;obtain⟨v',w',hr,ho,hgr,_⟩:=run_append_own (P:=P) w w.heap.size T ty e ei ez ei.size ei.bytes hT Bs AW rfl rfl Sq Br (.slice none 0 0) 0 [] (World.ownsRow_nil w _ e ei.size)
      ad m c news hl Yd h1 (by simpa using h63) (by simpa using hb) (Nat.le_refl _)
     exact⟨v',w',hr,yU (Gq ho) wQ,hgr,fun b hb=>.inr ((Cj (Gq ho) b hb).1)⟩
   | some ga =>
     obtain⟨v',w',hr,ho,hgr,oC⟩:=grow ga 0 (by omega) (by rw[hx];simp)
     exact⟨v',w',hr,ho,by rw[pQ];exact hgr,fun b hb=>.inr (oC b hb)⟩
  ·by_cases ZA:n+m≤cap
   ·have aCE:n * ei.size+news.length≤cur.size:=by rw[hl,HJ,← Nat.add_mul];exact Nat.mul_le_mul_right _ ZA
    have hr:=run_append_room (P:=P) w T ty e ei hT Bs g n cap cur hg ad m c news hl Yd h1 ZA aCE
    refine⟨_,_,hr,⟨hlen,.inr ⟨g,cap,_,rfl,hbg,setRow_heap w g cur _ e _ hg,ZA,C6, ?_, ?_,qJ⟩⟩,⟨rfl,rfl,rfl,by simp,fun k _ hk=>setRow_other w g k _ (fun e=>hk (by rw[kJ qJ,e]))⟩,fun b hb=>.inl (by rw[kJ qJ] at hb ⊢;exact hb)⟩
    ·simp only[List.size_toArray,List.length_append,List.length_take,List.length_drop,Array.length_toList];omega
    ·rw[htake,← hlen];exact List.take_left
   ·have holds:∀(j:Nat) (u:Value),xs[j]? = some u→w.cell? ((⟨g,0,none⟩:Addr).add j)=some u:=fun j u hu=>by
     rw[lU,Nat.zero_add,cell_of_row w g j cur e (0,0) hg];rw[← htake,List.getElem?_take] at hu;split at hu
     ·simpa using hu
     ·cases hu
    obtain⟨v',w',hr,ho,hgr,oC⟩:=grow ⟨g,0,none⟩ cap (by omega) holds
    exact⟨v',w',hr,ho,⟨hgr.os,hgr.tape,hgr.output,hgr.size,fun k hk _=>hgr.block k hk (by simp)⟩,fun b hb=>.inr (oC b hb)⟩
theorem lL (dst:Option Nat) (v:AV) (d:Nat) (x:nM):rC.apply { dst:=dst,val:=v,new:=some (d,[x])} st=(st.new d x).put dst v:=by
 simp only[rC.apply,Vs]
theorem Ri (dst:Option Nat) (v:AV) (s g d:Nat) (z:Option nM) (x:nM):rC.apply { dst:=dst,val:=v,dK:=some (s,g,z),new:=some (d,[x])} st=((st.iY s g z).new d x).put dst v:=by
 simp only[rC.apply,Vs]
theorem HN (S:kZ F h0 w0 nt ρ st a w) {T ty d:Nat} {s x:AV} {u:Option (Nat × Nat)} {r:nM} {sv xv:Value} (hd:d<nt) (h:dE P st T s x=some (u,r))
 (hs:cY (ctx h0 w0 ρ st w) s sv) (hx:cY (ctx h0 w0 ρ st w) x xv) :
 ∃v w' oD,(Builtin.append_ #[T,T] ty #[sv,xv]).run P w=.ok v w' ∧
  kZ F h0 w0 nt oD (rC.apply { dst:=some d,val:=.own d (st.aP d),dK:=u.map fun p=>(p.1,p.2,none),new:=some (d,[r])} st) (a.put (some d) v) w':=by
 unfold dE at h;cases SF:dM P T with
 | none=>simp[SF] at h
 | some t =>
   obtain⟨e,sz,by_⟩:=t
   simp only[SF] at h;obtain⟨ei,ez,hT,Bs,AW,rfl,Sq,rfl,Br⟩:=kA SF
   cases hv:aR st x with
   | none=>simp[hv] at h
   | some mn =>
     obtain⟨m,news⟩:=mn
     simp only[hv] at h;split at h
     ·rename_i hlen;obtain⟨p,c,rfl,W3⟩:=sL S hv hx
      have W4:∃nv:List Value,gC (ctx h0 w0 ρ st w) news nv∧(nv≠[]→∃ad,p=some ad∧∀(j:Nat) (u:Value),nv[j]? = some u→w.cell? (ad.add j)=some u):=by
       by_cases gW:news=[]
       ·subst gW;exact⟨[],.nil _,fun h=>absurd rfl h⟩
       ·obtain⟨b,off,arr,T',fr,hp,hb,hc⟩:=W3 gW
        refine⟨_,hc,fun _=>⟨_,hp,fun j u hu=>?_⟩⟩
        rw[lU,cell_of_row w b (off+j) arr T' fr hb];rw[List.getElem?_take] at hu;split at hu
        ·rw[List.getElem?_drop] at hu;simpa using hu
        ·cases hu
      obtain⟨nv,Ty,oS⟩:=W4
      have RY:nv.length=m * ei.size:=by rw[← Ty.len,hlen]
      have Qe:∀u∈nv,u.oneCell'=true:=fun u hu=>by
       obtain⟨j,hj,rfl⟩:=List.getElem_of_mem hu
       exact Ty.one j _ (by simp)
      split at h
      ·split at h
       ·rename_i hc;simp only[Option.some.injEq,Prod.mk.injEq] at h;obtain⟨rfl,rfl⟩:=h
        have:=iN hs
        subst this;obtain⟨v',w',hr,ho,hg,XZ⟩:=Ez (P:=P) (w:=w) (base:=w.heap.size) (ty:=ty) hT Bs AW Sq Br (Nat.le_refl _) (Gq (World.ownsRow_nil w _ e ei.size)) (p:=p) (c:=c) RY oS Qe (by simpa using hc.2) (by simpa using hc.1)
        simp only[Nat.zero_add,List.nil_append] at ho;obtain⟨oD,S'⟩:=S.newRow d hd hg e ei.size m news nv v' ho Ty
        exact⟨v',w',oD,hr,by rw[Option.map_none,lL];exact S'⟩
       ·cases h
      ·rename_i s' g'
       cases he:st.heap s' g' with
       | none=>simp[he] at h
       | some e' =>
         cases e' with
         | row e2 sz2 n cs =>
           simp only[he] at h;split at h
           ·rename_i hc;obtain⟨rfl,rfl,hb,h63⟩:=hc
            simp only[Option.some.injEq,Prod.mk.injEq] at h;obtain⟨rfl,rfl⟩:=h
            obtain⟨_,_,xs,ho,HJ⟩:=S.sK s' g' _ he
            cases hs with
            | own _ _ hg1 ho1 =>
              obtain⟨v',w',hr,ho',hg,XZ⟩:=Ez (P:=P) (w:=w) (ty:=ty) hT Bs AW Sq Br S.ext.size ho (p:=p) (c:=c) RY oS Qe h63 hb
              obtain⟨S',k,oX⟩:=S.L1 he hg d (.row e2 ei.size (n+m) (cs++news)) v' (tA ho') XZ (fun C k=>⟨xs++nv,ho',(HJ.app Ty).le k⟩)
              have bA:st.aP d<(ctx h0 w0 (tT ρ d (st.aP d) v') ((st.iY s' g' none).new d (.row e2 ei.size (n+m) (cs++news))) w').aP d:=by simp[ctx,St.new,St.iY]
              have lE:(ctx h0 w0 (tT ρ d (st.aP d) v') ((st.iY s' g' none).new d (.row e2 ei.size (n+m) (cs++news))) w').ρ d (st.aP d)=v':=oX
              have:=cY.own (C:=ctx h0 w0 (tT ρ d (st.aP d) v') ((st.iY s' g' none).new d (.row e2 ei.size (n+m) (cs++news))) w') d (st.aP d) bA (by rw[lE];exact tA ho')
              rw[lE] at this;have hS:=S'.put (some d) (fun t ht=>by cases ht;exact hd) this
              exact⟨v',w',_,hr,by rw[Option.map_some,Ri];exact hS⟩
           ·cases h
         | _=>simp[he] at h
      ·rename_i n cs;split at h
       ·rename_i hc;obtain⟨c1,c2,c3,c4⟩:=hc
        simp only[Option.some.injEq,Prod.mk.injEq] at h;obtain⟨rfl,rfl⟩:=h
        have main:∀(q:Option Addr) (ys:List Value),sv=.slice q n n→gC (ctx h0 w0 ρ st w) cs ys→(ys≠[]→∃ad,q=some ad∧∀(j:Nat) (u:Value),ys[j]? = some u→w.cell? (ad.add j)=some u) →
         ∃v' w',(Builtin.append_ #[T,T] ty #[sv,.slice p m c]).run P w=.ok v' w'∧oE w' w.heap.size e ei.size v' (n+m) (ys++nv)∧w.grownBy w' none:=by
         rintro q ys rfl Tz hcell'
         have hyl:ys.length=n * ei.size:=by rw[← Tz.len,c1]
         by_cases hm:m=0
         ·have hn0:n=0:=by omega
          subst hm;subst hn0;have hy0:ys=[]:=List.eq_nil_of_length_eq_zero (by simpa using hyl)
          have hn0:nv=[]:=List.eq_nil_of_length_eq_zero (by simpa using RY)
          subst hy0;subst hn0;obtain⟨v',w',hr,ho,hg,_⟩:=Ez (P:=P) (w:=w) (base:=w.heap.size) (ty:=ty) (v:=.slice q 0 0) (n:=0) (xs:=[]) hT Bs AW Sq Br (Nat.le_refl _) ⟨by simp,.inl ⟨q,rfl,rfl⟩⟩ (p:=p) (c:=c) RY oS (by simp) c4 c3
          rw[pQ] at hg;exact⟨v',w',hr,ho,hg⟩
         ·have gW:nv≠[]:=by
           intro h;rw[h] at RY;have:0<m * ei.size:=Nat.mul_pos (by omega) Br
           simp at RY
           omega
          obtain⟨ad,rfl,Yd⟩:=oS gW
          have hlen':(ys++nv).length=(n+m) * ei.size:=by rw[List.length_append,hyl,RY,Nat.add_mul]
          cases q with
          | none =>
            have hy0:ys=[]:=by
             by_cases h:ys=[]
             ·exact h
             ·obtain⟨ad,h1,_⟩:=hcell' h
              cases h1
            subst hy0;have hn0:n=0:=by
             rcases Nat.eq_zero_or_pos n with h|h
             ·exact h
             ·have:=Nat.mul_pos h Br
              simp at hyl
              omega
            subst hn0;obtain⟨v',w',hr,ho,hg,_⟩:=Ez (P:=P) (w:=w) (base:=w.heap.size) (ty:=ty) (v:=.slice none 0 0) (n:=0) (xs:=[]) hT Bs AW Sq Br (Nat.le_refl _) ⟨by simp,.inl ⟨none,rfl,rfl⟩⟩ (p:=some ad) (c:=c) RY oS Qe c4 c3
            rw[pQ] at hg;exact⟨v',w',hr,ho,hg⟩
          | some ga =>
            have holds:∀(j:Nat) (u:Value),ys[j]? = some u→w.cell? (ga.add j)=some u:=fun j u hu=>by
             have hne':ys≠[]:=by intro h;rw[h] at hu;simp at hu
             obtain⟨ad',h1,h2⟩:=hcell' hne'
             cases h1
             exact h2 j u hu
            have hr:=run_append_grow (P:=P) w T ty e ei ez hT Bs AW ga n n ys hyl holds ad m c nv RY Yd (by omega) (by simp only[maxLen] at c4;omega) (growslice_fits (by omega) c3)
            have hge:=grownCap_ge w (n+m) n e
            have aGD:=grownCap_le_maxLen w (n+m) n e c4
            refine⟨_,_,hr,⟨hlen',.inr ⟨w.heap.size,_,_,rfl,Nat.le_refl _,heap_alloc_new w.drew _,hge,aGD, ?_, ?_,by omega⟩⟩,⟨rfl,rfl,rfl,by simp,fun k hk _=>heap_alloc_old w.drew _ hk⟩⟩
            ·simp only[Array.size_append,List.size_toArray,size_zeroCells,Sq,hyl,RY,← Nat.add_mul];congr 1
             omega
            ·simp only[Array.toList_append,List.append_assoc];rw[← List.append_assoc,← hlen'];exact List.take_left
        have fin:∀(ys:List Value),gC (ctx h0 w0 ρ st w) cs ys→(∃v' w',(Builtin.append_ #[T,T] ty #[sv,.slice p m c]).run P w=.ok v' w'∧oE w' w.heap.size e ei.size v' (n+m) (ys++nv)∧w.grownBy w' none) →
         ∃v w' oD,(Builtin.append_ #[T,T] ty #[sv,.slice p m c]).run P w=.ok v w' ∧
          kZ F h0 w0 nt oD (rC.apply { dst:=some d,val:=.own d (st.aP d),dK:=(none:Option (Nat × Nat)).map fun p=>(p.1,p.2,none),new:=some (d,[.row e ei.size (n+m) (cs++news)])} st) (a.put (some d) v) w':=by
         rintro ys Tz ⟨v',w',hr,ho,hg⟩
         obtain⟨oD,S'⟩:=S.newRow d hd hg e ei.size (n+m) (cs++news) (ys++nv) v' ho (Tz.app Ty)
         exact⟨v',w',oD,hr,by rw[Option.map_none,lL];exact S'⟩
        cases hs with
        | cl0 n q=>exact fin [] (.nil _) (main q [] rfl (.nil _) (by simp))
        | cl n cs b off arr T' fr hb hle hr DD =>
          have Ag:gC (ctx h0 w0 ρ st w) cs ((arr.toList.drop off).take cs.length):=by
           refine⟨by simp;omega,fun i x y hx hy=>?_,fun i y hy=>?_⟩
           ·have hi:=(List.getElem?_eq_some_iff.1 hx).1
            rw[List.getElem?_take,if_pos hi,List.getElem?_drop] at hy;exact hr i x y hx (by simpa using hy)
           ·rw[List.getElem?_take] at hy;split at hy
            ·rename_i hi;rw[List.getElem?_drop] at hy;exact DD i y hi (by simpa using hy)
            ·cases hy
          refine fin _ Ag (main _ _ rfl Ag fun _=>⟨⟨b,off,none⟩,rfl,fun j u hu=>?_⟩)
          rw[lU,cell_of_row w b (off+j) arr T' fr hb.1];rw[List.getElem?_take] at hu;split at hu
          ·rw[List.getElem?_drop] at hu;simpa using hu
          ·cases hu
       ·cases h
      ·cases h
     ·cases h
theorem BH (S:kZ F h0 w0 nt ρ st a w) {T ty:Nat} {s x:AV} {u:Nat × Nat × nM × Nat} {sv xv:Value} (h:kY P st T s x=some u)
 (hs:cY (ctx h0 w0 ρ st w) s sv) (hx:cY (ctx h0 w0 ρ st w) x xv) :
 ∃v w',(Builtin.append_ #[T,T] ty #[sv,xv]).run P w=.ok v w'∧kZ F h0 w0 nt ρ (st.iY u.1 u.2.1 (some u.2.2.1)) a w' ∧
  cY (ctx h0 w0 ρ (st.iY u.1 u.2.1 (some u.2.2.1)) w') (.vw u.1 u.2.1 0 u.2.2.2) v:=by
 unfold kY at h;split at h
 ·rename_i e sz by_ m news s' g' k SF hv
  obtain⟨ei,ez,hT,Bs,AW,rfl,Sq,rfl,Br⟩:=kA SF
  cases he:st.heap s' g' with
  | none=>simp[he] at h
  | some en =>
    cases en with
    | row e' tM n cs =>
      simp only[he] at h;split at h
      ·rename_i hc;obtain⟨rfl,rfl,hlen,aCE⟩:=hc
       simp only[Option.some.injEq] at h;subst h;obtain⟨p,c,rfl,W3⟩:=sL S hv hx
       have W4:∃nv:List Value,gC (ctx h0 w0 ρ st w) news nv∧(nv≠[]→∃ad,p=some ad∧∀(j:Nat) (u:Value),nv[j]? = some u→w.cell? (ad.add j)=some u):=by
        by_cases gW:news=[]
        ·subst gW;exact⟨[],.nil _,fun h=>absurd rfl h⟩
        ·obtain⟨b,off,arr,T',fr,hp,hb,hc⟩:=W3 gW
         refine⟨_,hc,fun _=>⟨_,hp,fun j u hu=>?_⟩⟩
         rw[lU,cell_of_row w b (off+j) arr T' fr hb];rw[List.getElem?_take] at hu;split at hu
         ·rw[List.getElem?_drop] at hu;simpa using hu
         ·cases hu
       obtain⟨nv,Ty,oS⟩:=W4
       have RY:nv.length=m * ei.size:=by rw[← Ty.len,hlen]
       have Qe:∀u∈nv,u.oneCell'=true:=fun u hu=>by
        obtain⟨j,hj,rfl⟩:=List.getElem_of_mem hu
        exact Ty.one j _ (by simp)
       obtain⟨_,_,xs,ho,Ag⟩:=S.sK s' g' _ he
       cases hs with
       | vw _ _ _ _ b cap hg hb nA yS =>
         have oC:dF (ρ s' g')=some b:=hb
         rcases ho.2 with ⟨q,lE,hn⟩|⟨b',AU,cur,lE,wQ,hh,D2,C6,HJ,ht,qJ⟩
         ·rw[lE,pQ] at oC;cases oC
         ·have wY:b'=b:=by rw[lE,kJ qJ] at oC;simpa using oC
          subst wY;have hcc:cap=AU:=yS rfl _ _ _ lE
          subst hcc;have U1:(k+m) * ei.size≤n * ei.size:=Nat.mul_le_mul_right _ aCE
          have hnn:n * ei.size≤cap * ei.size:=Nat.mul_le_mul_right _ D2
          rw[Nat.add_mul] at U1;have hcl':cur.toList.length=cur.size:=rfl
          have pY:(Builtin.append_ #[T,T] ty #[.slice (some ⟨b',0,none⟩) k cap,.slice p m c]).run P w=.ok (.slice (some ⟨b',0,none⟩) (k+m) cap) (w.setRow b' (cur.toList.take (k * ei.size)++nv++cur.toList.drop (k * ei.size+nv.length)).toArray):=by
           by_cases gW:nv=[]
           ·have hm:m=0:=by
             rw[gW] at RY;rcases Nat.eq_zero_or_pos m with h|h
             ·exact h
             ·have:=Nat.mul_pos h Br
              simp at RY
              omega
            subst hm;have hfc:∀(x:Value),(∃p,x=.slice p 0 c)→(Builtin.firstCells ei.size 0 x).run P w=.ok #[] w:=by
             rintro x ⟨p,rfl⟩
             cases p<;>simp[Builtin.firstCells,loadCells,loadCellsFrom]
            have e0:(cur.toList.take (k * ei.size)++nv++cur.toList.drop (k * ei.size+nv.length)).toArray=cur:=by
             rw[gW];simp
            rw[e0,setRow_self w b' cur e' (0,0) hh];have hkc:k≤cap:=by omega
            simp[Builtin.append_,aY hT,run_sizeOf w Bs,Builtin.lenOf,hfc _ ⟨p,rfl⟩,storeCells,hkc]
           ·obtain⟨ad,rfl,Yd⟩:=oS gW
            exact run_append_room (P:=P) w T ty e' ei hT Bs b' k cap cur hh ad m c nv RY Yd Qe (by omega) (by omega)
          have hxl:=ho.1
          have hcsl:=Ag.len
          have S':=S.store (e':=.row e' ei.size n (cs.take (k * ei.size)++news++cs.drop (k * ei.size+m * ei.size))) (w':=w.setRow b' (cur.toList.take (k * ei.size)++nv++cur.toList.drop (k * ei.size+nv.length)).toArray) he oC ⟨rfl,rfl,rfl,by simp,fun j _ hj=>setRow_other w b' j _ (fun e=>hj (by rw[e]))⟩ (fun C kC=>by
           refine⟨xs.take (k * ei.size)++nv++xs.drop (k * ei.size+m * ei.size),⟨by simp;omega,.inr ⟨b',cap,_,lE,wQ,setRow_heap w b' cur _ e' (0,0) hh,D2,C6,by simp;omega, ?_,qJ⟩⟩,(((Ag.take _).app Ty).app (Ag.drop _)).le kC⟩
           simp only
           rw[← ht,RY];have l1:(cur.toList.take (k * ei.size)++nv).length=k * ei.size+m * ei.size:=by simp;omega
           rw[List.take_append,l1,List.take_of_length_le (by omega),List.drop_take,List.take_take,Nat.min_eq_left (by omega)])
          exact⟨_,_,pY,S',.vw s' g' 0 _ b' cap hg hb (by show k+m≤cap;omega) (fun _=>yS rfl)⟩
      ·cases h
    | _=>simp[he] at h
 ·cases h
theorem OD (S:kZ F h0 w0 nt ρ st a w) {T ty:Nat} {x:AV} {u:Option (Nat × Nat × nM)} {xv:Value} (h:rV P st T x=some u) (hx:cY (ctx h0 w0 ρ st w) x xv) :
 ∃w',(Builtin.clear_ #[T] ty #[xv]).run P w=.ok (.tuple #[]) w'∧kZ F h0 w0 nt ρ (match u with|some p=>st.iY p.1 p.2.1 (some p.2.2)|none=>st) a w':=by
 unfold rV at h;split at h
 ·rename_i e sz by_ s g o k SF _;obtain⟨ei,ez,hT,Bs,AW,rfl,Sq,rfl,Br⟩:=kA SF
  split at h
  ·rename_i z e' tM n cs hz he
   split at h
   ·rename_i hc;obtain⟨rfl,rfl,aCE⟩:=hc
    simp only[Option.some.injEq] at h;subst h;obtain⟨i',zv,Cl,KU,rfl,L4⟩:=yW hz
    rw[Bs] at Cl
    cases Cl
    rw[AW] at KU;cases KU
    obtain⟨_,_,xs,ho,Ag⟩:=S.sK s g _ he
    cases hx with
    | vw _ _ _ _ b cap hg hb nA yS =>
      have oC:dF (ρ s g)=some b:=hb
      rcases ho.2 with ⟨q,lE,hn⟩|⟨b',AU,cur,lE,wQ,hh,D2,C6,HJ,ht,qJ⟩
      ·rw[lE,pQ] at oC;cases oC
      ·have wY:b'=b:=by rw[lE,kJ qJ] at oC;simpa using oC
       subst wY;have hxl:=ho.1
       have hcsl:=Ag.len
       have hnn:n * ei.size≤AU * ei.size:=Nat.mul_le_mul_right _ D2
       have hcl':cur.toList.length=cur.size:=rfl
       have UX:(Builtin.zeroCells ez.cells k).toList=(List.range k).flatMap fun _=>ez.cells.toList:=by
        unfold Builtin.zeroCells;rw[← Hr]
       have hzl:((List.range k).flatMap fun _=>ez.cells.toList).length=k * ei.size:=by
        rw[← UX,Array.length_toList,size_zeroCells,Sq]
       have hz1':∀v∈(List.range k).flatMap fun _=>ez.cells.toList,v.oneCell'=true:=fun v hv=>by
        obtain⟨_,_,hv⟩:=List.mem_flatMap.1 hv
        exact L4 v hv
       have xS:=run_storeCells_at P b' o e' ((List.range k).flatMap fun _=>ez.cells.toList) 0 cur w hh (by rw[hzl];omega) hz1'
       simp only[Nat.add_zero] at xS;have S':=S.store (e':=.row e' ei.size n (cs.take o++((List.range k).flatMap fun _=>ez.cells.toList.map .v)++cs.drop (o+k * ei.size))) (w':=w.setRow b' (cur.toList.take o++((List.range k).flatMap fun _=>ez.cells.toList)++cur.toList.drop (o+((List.range k).flatMap fun _=>ez.cells.toList).length)).toArray) he oC ⟨rfl,rfl,rfl,by simp,fun j _ hj=>setRow_other w b' j _ (fun e=>hj (by rw[e]))⟩ (fun C kC=>by
        refine⟨xs.take o++((List.range k).flatMap fun _=>ez.cells.toList)++xs.drop (o+k * ei.size),⟨by rw[List.length_append,List.length_append,hzl];simp;omega,.inr ⟨b',AU,_,lE,wQ,setRow_heap w b' cur _ e' (0,0) hh,D2,C6,by rw[List.size_toArray,List.length_append,List.length_append,hzl];simp;omega, ?_,qJ⟩⟩,(((Ag.take _).le kC).app (Ji L4 k)).app ((Ag.drop _).le kC)⟩
        simp only
        rw[← ht,hzl];have l1:(cur.toList.take o++((List.range k).flatMap fun _=>ez.cells.toList)).length=o+k * ei.size:=by rw[List.length_append,hzl];simp;omega
        rw[List.take_append,l1,List.take_of_length_le (by omega),List.drop_take,List.take_take,Nat.min_eq_left (by omega)])
       refine⟨_, ?_,S'⟩
       have hzv:(zeroValue e').run P w=.ok ez w:=by simp[zeroValue,typeInfo,Bs,AW]
       cases k with
       | zero =>
         have e0:(cur.toList.take o++((List.range 0).flatMap fun _=>ez.cells.toList)++cur.toList.drop (o+((List.range 0).flatMap fun _=>ez.cells.toList).length)).toArray=cur:=by simp
         rw[e0,setRow_self w b' cur e' (0,0) hh];simp[Builtin.clear_,aY hT]
       | succ k =>
         have hst2:(storeCells ⟨b',o,none⟩ (Builtin.zeroCells ez.cells (k+1)).toList).run P w=.ok () (w.setRow b' (cur.toList.take o++((List.range (k+1)).flatMap fun _=>ez.cells.toList)++cur.toList.drop (o+((List.range (k+1)).flatMap fun _=>ez.cells.toList).length)).toArray):=by rw[UX];exact xS
         obtain⟨W,hW⟩:∃W,w.setRow b' (cur.toList.take o++((List.range (k+1)).flatMap fun _=>ez.cells.toList)++cur.toList.drop (o+((List.range (k+1)).flatMap fun _=>ez.cells.toList).length)).toArray=W:=⟨_,rfl⟩
         rw[hW] at hst2;rw[hW];simp[Builtin.clear_,aY hT,hzv,hst2]
   ·cases h
  ·cases h
 ·rename_i t cs SF _;simp only[Option.some.injEq] at h;subst h;obtain⟨e,sz,by_⟩:=t
  obtain⟨ei,ez,hT,_⟩:=kA SF
  refine⟨w, ?_,S⟩
  cases hx with
  | KQ n cap p nA=>cases p<;>simp[Builtin.clear_,aY hT]
  | sl n cs b off cap arr T fr nA hb hle hr h1=>simp[Builtin.clear_,aY hT]
 ·rename_i t SF _;simp only[Option.some.injEq] at h;subst h;obtain⟨e,sz,by_⟩:=t
  obtain⟨ei,ez,hT,_⟩:=kA SF
  have:=iN hx
  subst this;exact⟨w,by simp[Builtin.clear_,aY hT],S⟩
 ·cases h
theorem UY {C:Ctx} {x:AV} {v:Value} {g:Nat} {nN:List AV} (h:FJ x=some (g,nN)) (hr:cY C x v):∃cv,v=.func (.func g) #[] cv∧lO C nN cv.toList:=by
 unfold FJ at h;split at h
 ·split at h
  ·rename_i hc;obtain⟨rfl,rfl⟩:=hc
   simp only[Option.some.injEq,Prod.mk.injEq] at h;obtain⟨rfl,rfl⟩:=h
   have:=iN hr
   subst this;exact⟨#[],rfl,.nil C⟩
  ·cases h
 ·simp only[Option.some.injEq,Prod.mk.injEq] at h;obtain⟨rfl,rfl⟩:=h
  cases hr with
  | uO f cs a hl hr=>exact⟨a,rfl,by simpa using hl,fun i x y hx hy=>hr i x y hx (by simpa using hy)⟩
 ·cases h
variable [Ext]
theorem BI (S:kZ F h0 w0 nt ρ st a w) {call:Nat→List AV→Option AV} (kM:qY P call) {o:Oper} {c:Call} (qC:o.op=.call c) {e:rC}
 (h:iJ P call c o.dst st=some e) (hd:∀d,o.dst=some d→d<nt)
 (hK:∀oD a' w',kZ F h0 w0 nt oD (e.apply st) a' w'→K a' w'):o.wp P a w K Q:=by
 have wS:lO (ctx h0 w0 ρ st w) (c.args.toList.map st.ev) (c.args.toList.map a.eval):=lO.map _ _ _ fun p _=>S.ev p
 unfold iJ at h;split at h
 ·rename_i f hf;have fin:∀g cv,a.eval f=.func (.func g) #[] cv→(Ho P g∧Calls P g (c.args.map a.eval++cv) w fun en w'=>∃v,en=.returned v∧K (a.put o.dst v) w')→o.wp P a w K Q:=by
   rintro g cv hv ⟨⟨fn,aGE,W5,W6⟩,UZ⟩
   have hnb:fn.body.isNone=false:=by
    cases hb:fn.body<;>simp[hb] at W6 ⊢
   have Qe : ¬ fn.name = "runtime.NumGoroutine" := by simpa using W5
   have hn2:¬fn.body=none:=by intro h;simp[h] at hnb
   have pY:(execOp a.eval o).run P w=.ok (.enter g (c.args.map a.eval++cv)) w:=by
    simp[execOp,qC,resolve,hf,hv,Deferred.ofValue,invoke,callFunc,aGE,Qe,hn2]
   unfold Oper.wp;rw[pY,Oper.upon_enter];refine UZ.mono ?_
   rintro en w' ⟨v,rfl,hk⟩
   exact hk
  have gen:∀g nN,FJ (st.ev f)=some (g,nN)→aL call g (c.args.toList.map st.ev++nN) st o.dst=some e→o.wp P a w K Q:=by
   intro g nN hfn h;obtain⟨cv,hv,hcaps⟩:=UY hfn (S.ev f)
   have gB:lO (ctx h0 w0 ρ st w) (c.args.toList.map st.ev++nN) (c.args.map a.eval++cv).toList:=by
    simpa using wS.app hcaps
   exact fin g cv hv (Ey S kM h gB hd hK)
  unfold oA at h;split at h
  ·rename_i g;split at h
   ·refine fin g #[] rfl ?_
    exact HL S kM h (by simpa using wS) hd hK
   ·split at h
    ·refine fin g #[] rfl ?_
     exact BG S kM h (by simpa using wS) hd hK
    ·exact gen g [] rfl (by simpa using h)
  ·split at h
   ·rename_i g nN hfn;exact gen g nN hfn h
   ·cases h
 ·rename_i hf;split at h
  ·rename_i x T hx hT;cases hs:dM P T with
   | none=>simp[hs] at h
   | some t =>
     cases hv:aR st (st.ev x) with
     | none=>simp[hs,hv] at h
     | some nc =>
       obtain⟨n,cs⟩:=nc
       simp only[hs,hv,Option.some.injEq] at h;subst h;obtain⟨p,cap,W7,_⟩:=sL S hv (S.ev x)
       obtain⟨e,sz,by_⟩:=t
       obtain⟨ei,ez,hu,_⟩:=kA hs
       have ha:c.args=#[x]:=by apply Array.ext';simpa using hx
       have ht:c.argTypes=#[T]:=by apply Array.ext';simpa using hT
       refine upon_value (v:=.int .i64 n) ?_ (hK ρ _ w (S.put o.dst hd (.v _)))
       simp[execOp,qC,resolve,hf,ha,ht,invoke,builtin,Builtin.len_,W7,aY hu,goInt]
  ·cases h
 ·rename_i hf;split at h
  ·rename_i x y hx;split at h
   ·rename_i k p k' q h1 h2
    simp only[Option.some.injEq] at h;subst h;have e1:=S.ev x
    rw[h1] at e1;have e1:=iN e1
    have e2:=S.ev y
    rw[h2] at e2;have e2:=iN e2
    have ha:c.args=#[x,y]:=by apply Array.ext';simpa using hx
    refine upon_value (v:=.int k (if q<p then q else p)) ?_ (hK ρ _ w (S.put o.dst hd (.v _)))
    simp[execOp,qC,resolve,hf,ha,invoke,builtin,Builtin.min_,Builtin.min2,e1,e2]
   ·cases h
  ·cases h
 ·rename_i hf;split at h
  ·rename_i x y hx;split at h
   ·rename_i k p k' q h1 h2
    simp only[Option.some.injEq] at h;subst h;have e1:=S.ev x
    rw[h1] at e1;have e1:=iN e1
    have e2:=S.ev y
    rw[h2] at e2;have e2:=iN e2
    have ha:c.args=#[x,y]:=by apply Array.ext';simpa using hx
    refine upon_value (v:=.int k (if q > p then q else p)) ?_ (hK ρ _ w (S.put o.dst hd (.v _)))
    simp[execOp,qC,resolve,hf,ha,invoke,builtin,Builtin.max_,Builtin.max2,e1,e2]
   ·cases h
  ·cases h
 ·rename_i hf;cases lH:o.dst with
  | none=>simp[lH,cN] at h
  | some d =>
  simp only[lH,cN] at h;split at h
  ·rename_i s x T T' hx hT
   split at h
   ·rename_i hTT;subst hTT;split at h
    ·cases nU:kY P st T (st.ev s) (st.ev x) with
     | none=>simp[nU] at h
     | some u =>
     simp only[nU,Option.map_some,Option.some.injEq] at h;subst h;obtain⟨v,w',hr,S',hv⟩:=BH (ty:=o.type) S nU (S.ev s) (S.ev x)
     have ha:c.args=#[s,x]:=by apply Array.ext';simpa using hx
     have ht:c.argTypes=#[T,T]:=by apply Array.ext';simpa using hT
     rw[lH] at hd;have hk:=hK ρ _ w' (S'.put (some d) hd hv)
     unfold Oper.wp;simp only[execOp,qC,resolve,hf,ha,ht,invoke,builtin];simp[hr]
     unfold Oper.upon;rw[lH];exact hk
    split at h
    ·rename_i hpa;obtain⟨_,hs0,SF,hv'⟩:=hpa
     obtain⟨⟨_,cs⟩,hv,hv0⟩:=Option.map_eq_some_iff.1 hv'
     simp only at hv0
     subst hv0;simp only[Option.some.injEq] at h;subst h;have e1:=S.ev s
     rw[hs0] at e1;have e1:=iN e1
     obtain⟨q,c',hxv,_⟩:=sL S hv (S.ev x)
     cases hsi:dM P T with
     | none=>rw[hsi] at SF;cases SF
     | some t =>
     obtain⟨e,sz,by_⟩:=t
     obtain⟨ei,ez,hT',Bs,_⟩:=kA hsi
     have hz:∀w:World,(Builtin.firstCells ei.size 0 (.slice q 0 c')).run P w=.ok ([]:List Value).toArray w:=fun w=>by cases q<;>simp[Builtin.firstCells,loadCells,loadCellsFrom]
     have hr:(Builtin.append_ #[T,T] o.type #[.slice none 0 0,.slice q 0 c']).run P w=.ok (.slice none 0 0) w:=run_append_nothing w T T o.type e ei hT' Bs none 0 0 (Nat.le_refl _) _ ⟨.inl ⟨e,hT'⟩,fun w'=>by simp[Builtin.lenOf],hz _,hz _,by simp,by simp⟩
     have ha:c.args=#[s,x]:=by apply Array.ext';simpa using hx
     have ht:c.argTypes=#[T,T]:=by apply Array.ext';simpa using hT
     rw[lH] at hd;refine upon_value (v:=.slice none 0 0) ?_ (by rw[lH];exact hK ρ _ w (S.put (some d) hd (.v _)))
     simp[execOp,qC,resolve,hf,ha,ht,invoke,builtin,e1,hxv,hr]
    cases nU:dE P st T (st.ev s) (st.ev x) with
    | none=>simp[nU] at h
    | some ur =>
      obtain⟨u,r⟩:=ur
      simp only[nU,Option.some.injEq] at h;subst h;obtain⟨v,w',oD,hr,S'⟩:=HN (ty:=o.type) S (hd d lH) nU (S.ev s) (S.ev x)
      have ha:c.args=#[s,x]:=by apply Array.ext';simpa using hx
      have ht:c.argTypes=#[T,T]:=by apply Array.ext';simpa using hT
      have hk:=hK oD _ w' S'
      unfold Oper.wp;simp only[execOp,qC,resolve,hf,ha,ht,invoke,builtin];simp[hr]
      unfold Oper.upon;rw[lH];exact hk
   ·cases h
  ·cases h
 ·rename_i hf;split at h
  ·rename_i x T hx hT;cases nU:rV P st T (st.ev x) with
   | none=>simp[nU] at h
   | some u =>
     simp only[nU,Option.map_some,Option.some.injEq] at h;subst h;obtain⟨w',hr,S'⟩:=OD (ty:=o.type) S nU (S.ev x)
     have ha:c.args=#[x]:=by apply Array.ext';simpa using hx
     have ht:c.argTypes=#[T]:=by apply Array.ext';simpa using hT
     have hk:=hK ρ (a.put o.dst (.tuple #[])) w' (by
      have:=S'.put o.dst hd (x:=.eN []) (v:=.tuple #[]) (.eN [] #[] rfl (by simp))
      cases u with
      | none=>exact this
      | some p=>exact this)
     unfold Oper.wp;simp only[execOp,qC,resolve,hf,ha,ht,invoke,builtin];simp[hr]
     unfold Oper.upon;exact hk
  ·cases h
 ·cases h
theorem Tc (S:kZ F h0 w0 nt ρ st a w) {call:Nat→List AV→Option AV} (kM:qY P call) {o:Oper} {e:rC} (h:dI P call o st=some e) (hd:∀d,o.dst=some d→d<nt)
 (hK:∀oD a' w',kZ F h0 w0 nt oD (e.apply st) a' w'→K a' w'):o.wp P a w K Q:=by
 unfold dI at h;split at h
 ·rename_i T qC;cases lH:o.dst with
  | none=>simp[lH,cN] at h
  | some d =>
    cases hz:dZ P T with
    | none=>simp[lH,hz,cN] at h
    | some z =>
      simp only[lH,hz,cN,Option.some.injEq] at h;subst h;obtain⟨i,zv,hi,KU,rfl,L4⟩:=yW hz
      obtain⟨oD,S'⟩:=S.newVar d (hd d lH) (zv.cells.toList.map .v) zv.cells T (gC.vs _ _ L4)
      refine upon_value (v:=.pointer (some ⟨w.heap.size,0,none⟩)) (w':=w.alloc (.cells zv.cells T)) ?_ (by rw[lH];exact hK oD _ _ (by rw[lL];exact S'))
      simp only[execOp,qC,Instr.alloc];simp[Bp w hi KU,Go.newVar,Go.newRow]
 ·rename_i T x qC;cases lH:o.dst with
  | none=>simp[lH,cN] at h
  | some d =>
    simp only[lH,cN] at h;split at h
    ·rename_i xS;simp only[Option.some.injEq] at h;subst h;obtain⟨oD,S'⟩:=S.newVar d (hd d lH) (st.ev x).cells (a.eval x).cells T ((S.ev x).cells xS)
     refine upon_value (v:=.pointer (some ⟨w.heap.size,0,none⟩)) (w':=w.alloc (.cells (a.eval x).cells T)) ?_ (by rw[lH];exact hK oD _ _ (by rw[lL];exact S'))
     simp only[execOp,qC,Instr.box];simp[Go.newVar,Go.newRow]
    ·cases h
 ·rename_i T n parts qC;cases lH:o.dst with
  | none=>simp[lH,cN] at h
  | some d =>
    cases hs:dM P T with
    | none=>simp[lH,hs,cN] at h
    | some t =>
      obtain⟨e',sz,by_⟩:=t
      cases hz:dZ P e' with
      | none=>simp[lH,hs,hz,cN] at h
      | some z =>
        simp only[lH,hs,hz,cN] at h;split at h
        ·rename_i hc;obtain⟨c1,c2,c3⟩:=hc
         cases hf:gT (fun i=>some (i * sz,sz)) ((List.range n).flatMap fun _=>z.map .v) (parts.toList.map fun p=>(p.1,st.ev p.2)) with
         | none=>simp[hf] at h
         | some cs =>
           simp only[hf,Option.some.injEq] at h;subst h;obtain⟨v,w',xs,hr,hg,ho,oS⟩:=Rh S hs hz c1 c2 c3 hf
           obtain⟨oD,S'⟩:=S.newRow d (hd d lH) hg e' sz n cs xs v ho oS
           refine upon_value (v:=v) (w':=w') ?_ (by rw[lH];exact hK oD _ _ (by rw[lL];exact S'))
           simp only[execOp,qC];rw[dH hr];rfl
        ·cases h
 ·rename_i T l c qC;cases lH:o.dst with
  | none=>simp[lH,cN] at h
  | some d =>
    cases hs:dM P T with
    | none=>simp[lH,hs,cN] at h
    | some t =>
      obtain⟨e',sz,by_⟩:=t
      cases hz:dZ P e' with
      | none=>simp[lH,hs,hz,cN] at h
      | some z =>
        simp only[lH,hs,hz,cN] at h;split at h
        ·rename_i n m hl hc;split at h
         ·rename_i L3;obtain⟨c1,rfl,c3,c4⟩:=L3
          simp only[Option.some.injEq] at h;subst h;obtain⟨k,rfl⟩:∃k:Nat,n=k:=⟨n.toNat,by omega⟩
          obtain⟨v,w',xs,hr,hg,ho,oS⟩:=Ua (w:=w) (ctx h0 w0 ρ st w) hs hz (n:=k) (by
           have:((k * by_:Nat):Int)≤140737488355328:=by rw[Int.natCast_mul];exact c3
           omega) (by omega)
          obtain⟨oD,S'⟩:=S.newRow d (hd d lH) hg e' sz k _ xs v ho oS
          simp only[Int.toNat_natCast] at hK;refine upon_value (v:=v) (w':=w') ?_ (by rw[lH];exact hK oD _ _ (by rw[lL];exact S'))
          have e1:=S.ev l
          rw[hl] at e1;have e1:=iN e1
          have e2:=S.ev c
          rw[hc] at e2;have e2:=iN e2
          simp only[execOp,qC,e1,e2];rw[dH hr];rfl
         ·cases h
        ·cases h
 ·rename_i T x y qC;cases hs:pT P st T (st.ev x) (st.ev y) with
  | none=>simp[hs] at h
  | some u =>
    obtain⟨s,g,e'⟩:=u
    simp only[hs,Option.map_some,Option.some.injEq] at h;subst h;obtain⟨w',hr,S'⟩:=OC S hs (S.ev x) (S.ev y)
    have hk:=hK ρ _ w' (S'.put o.dst hd (.v undef))
    unfold Oper.wp;simp only[execOp,qC];rw[dH hr];exact hk
 ·rename_i T qC;cases lH:o.dst with
  | none=>simp[lH,cN] at h
  | some d =>
    simp only[lH,cN,Option.some.injEq] at h;subst h;obtain⟨S',k,oX⟩:=S.new (World.grownBy_alloc w (.map #[] 0) none) d (.map []) (.map (some w.heap.size)) rfl (fun b hb=>by simp[dF] at hb;omega)
     (fun C k _=>⟨w.heap.size,#[],0,rfl,S.ext.size,heap_alloc_new w _,trivial⟩)
    have bA:st.aP d<(ctx h0 w0 (tT ρ d (st.aP d) (.map (some w.heap.size))) (st.new d (.map [])) (w.alloc (.map #[] 0))).aP d:=by simp[ctx,St.new]
    have lE:(ctx h0 w0 (tT ρ d (st.aP d) (.map (some w.heap.size))) (st.new d (.map [])) (w.alloc (.map #[] 0))).ρ d (st.aP d)=.map (some w.heap.size):=oX
    have:=cY.mp (C:=ctx h0 w0 (tT ρ d (st.aP d) (.map (some w.heap.size))) (st.new d (.map [])) (w.alloc (.map #[] 0))) d (st.aP d) bA (by rw[lE];rfl)
    rw[lE] at this;have hS:=S'.put (some d) (fun t ht=>by cases ht;exact hd d lH) this
    refine upon_value (v:=.map (some w.heap.size)) (w':=w.alloc (.map #[] 0)) ?_ (by rw[lH];exact hK _ _ _ (by rw[lL];exact hS))
    simp only[execOp,qC,Option.map_none];rfl
 ·rename_i T m x y qC;cases hs:tQ P st T (st.ev m) (st.ev x) (st.ev y) with
  | none=>simp[hs] at h
  | some u =>
    obtain⟨s,g,e'⟩:=u
    simp only[hs,Option.map_some,Option.some.injEq] at h;subst h;obtain⟨w',hr,S'⟩:=HG S hs (S.ev m) (S.ev x) (S.ev y)
    have hk:=hK ρ _ w' (S'.put o.dst hd (.v undef))
    unfold Oper.wp;simp only[execOp,qC];rw[dH hr];exact hk
 ·rename_i c qC;exact BI S kM qC h hd hK
 ·cases hv:iV P st o.op with
  | none=>simp[hv] at h
  | some x =>
    simp only[hv,Option.map_some,Option.some.injEq] at h;subst h;obtain⟨v,hr,gB⟩:=NV S hv
    exact upon_value hr (hK ρ _ w (S.put o.dst hd gB))
end
end Go.Ab
end
section
namespace Go.Ab
open Classical
def mP (aP:Nat→Nat) (x:AV):Prop:=∃(C:Ctx) (v:Value),C.aP=aP∧cY C x v
theorem mP.ptr {aP:Nat→Nat} {s g o:Nat} (h:mP aP (.ptr s g o)):g<aP s:=by
 obtain⟨C,v,rfl,h⟩:=h
 cases h with
 | ptr s g off b hg hb=>exact hg
theorem mP.own {aP:Nat→Nat} {s g:Nat} (h:mP aP (.own s g)):g<aP s:=by
 obtain⟨C,v,rfl,h⟩:=h
 cases h with
 | own s g hg _=>exact hg
theorem mP.vw {aP:Nat→Nat} {s g o n:Nat} (h:mP aP (.vw s g o n)):g<aP s:=by
 obtain⟨C,v,rfl,h⟩:=h
 cases h with
 | vw s g o n b cap hg _ _ _=>exact hg
theorem mP.mp {aP:Nat→Nat} {s g:Nat} (h:mP aP (.mp s g)):g<aP s:=by
 obtain⟨C,v,rfl,h⟩:=h
 cases h with
 | mp s g hg _=>exact hg
theorem mP.agg {aP:Nat→Nat} {cs:List AV} (h:mP aP (.agg cs)):∀c∈cs,mP aP c:=by
 obtain⟨C,v,rfl,h⟩:=h
 cases h with
 | agg cs a hl hr _ =>
   intro c hc;obtain⟨i,hi,rfl⟩:=List.getElem_of_mem hc
   exact⟨C,a[i],rfl,hr i _ _ (by simp[hi]) (by simp)⟩
theorem mP.uO {aP:Nat→Nat} {f:Nat} {cs:List AV} (h:mP aP (.uO f cs)):∀c∈cs,mP aP c:=by
 obtain⟨C,v,rfl,h⟩:=h
 cases h with
 | uO f cs a hl hr =>
   intro c hc;obtain⟨i,hi,rfl⟩:=List.getElem_of_mem hc
   exact⟨C,a[i]'(by omega),rfl,hr i _ _ (by simp[hi]) (by simp)⟩
section
variable {P:Program} {call:Nat→List AV→Option AV} {st st':St}
def pZ (st st':St):Prop:=∀s g,g<st.aP s→st'.heap s g=st.heap s g
theorem HO {x:AV} (hx:mP st.aP x) (hh:pZ st st'):qI st' x=qI st x:=by
 cases x<;>simp only[qI]
 rw[hh _ _ hx.ptr]
theorem sM {x:AV} (hx:mP st.aP x) (hh:pZ st st'):aR st' x=aR st x:=by
 cases x
 case own=>simp only[aR,hh _ _ hx.own]
 case vw=>simp only[aR,hh _ _ hx.vw]
 case v y =>
  cases y
  case slice p n c=>cases p<;>cases n<;>cases c<;>rfl
  all_goals rfl
 all_goals rfl
theorem Rj {T:Nat} {x i:AV} (hx:mP st.aP x) (hh:pZ st st'):bF P st' T x i=bF P st T x i:=by
 unfold bF;cases x<;>try rfl
 simp only[hh _ _ hx.own]
theorem Ye {T:Nat} {x:AV} {lo hi:Option Operand} (hx:∀s g,((∃o,x=.ptr s g o)∨x=.own s g∨∃o n,x=.vw s g o n)→st'.heap s g=st.heap s g) (hl:∀p,lo=some p→st'.ev p=st.ev p) (Cl:∀p,hi=some p→st'.ev p=st.ev p):cW P st' T x lo hi=cW P st T x lo hi:=by
 unfold cW;cases dM P T with
 | none =>
   simp only
   cases jM P T with
   | none=>rfl
   | some na =>
     cases x<;>try rfl
     rename_i s g o;cases lo<;>cases hi<;>try rfl
     simp only[hx s g (.inl ⟨o,rfl⟩)]
 | some t =>
   simp only
   cases x<;>try rfl
   case v y =>
    cases y<;>try rfl
    rename_i p n c;cases p<;>cases n<;>cases c<;>try rfl
    cases lo with
    | none=>cases hi with
      | none=>rfl
      | some h=>simp only[Cl h rfl]
    | some l=>cases hi with
      | none=>simp only[hl l rfl]
      | some h=>simp only[hl l rfl,Cl h rfl]
   case sl n cs =>
    cases lo with
    | none=>cases hi with
      | none=>rfl
      | some h=>simp only[Cl h rfl]
    | some l=>cases hi with
      | none=>simp only[hl l rfl]
      | some h=>simp only[hl l rfl,Cl h rfl]
   case own s g =>
    simp only[hx s g (.inr (.inl rfl))];cases lo with
    | none=>cases hi with
      | none=>rfl
      | some h=>simp only[Cl h rfl]
    | some l=>cases hi with
      | none=>simp only[hl l rfl]
      | some h=>simp only[hl l rfl,Cl h rfl]
   case vw s g o n =>
    cases o with
    | succ o=>rfl
    | zero =>
      simp only[hx s g (.inr (.inr ⟨_,_,rfl⟩))];cases st.heap s g with
      | none=>rfl
      | some e=>cases e with
        | row e' tM n' Du =>
          cases lo with
          | none=>cases hi<;>rfl
          | some l=>cases hi with
            | none=>rfl
            | some h=>simp only[hl l rfl,Cl h rfl]
        | _=>rfl
theorem HP {T:Nat} {x:AV} {lo hi:Option Operand} (hx:mP st.aP x) (hh:pZ st st') (hl:∀p,lo=some p→st'.ev p=st.ev p) (Cl:∀p,hi=some p→st'.ev p=st.ev p):cW P st' T x lo hi=cW P st T x lo hi :=
 Ye (fun s g h=>by
  rcases h with ⟨o,rfl⟩|rfl|⟨o,n,rfl⟩
  ·exact hh _ _ hx.ptr
  ·exact hh _ _ hx.own
  ·exact hh _ _ hx.vw) hl Cl
def BJ (st:St):Prop:=∀s g cs,st.heap s g=some (.cells cs)→∀c∈cs,mP st.aP c
theorem OE {x:AV} (hx:mP st.aP x) (hh:pZ st st'):qA st' x=qA st x:=by
 unfold qA;cases x<;>try rfl
 ·simp only[hh _ _ hx.own]
 ·simp only[hh _ _ hx.vw]
theorem Hs (hp:BJ st) {x:AV} (hx:mP st.aP x) (hh:pZ st st'):cA st' x=cA st x:=by
 unfold cA;cases x<;>try rfl
 ·rename_i s g o;simp only[hh _ _ hx.ptr];cases he:st.heap s g with
  | none=>rfl
  | some e =>
    cases e with
    | cells cs =>
      have:cs.map (qA st')=cs.map (qA st):=List.map_congr_left fun c hc=>OE (hp s g cs he c hc) hh
      simp only[this]
    | _=>rfl
 ·simp only[hh _ _ hx.own]
 ·simp only[hh _ _ hx.vw]
theorem Yf (hp:BJ st) {x:AV} (hx:mP st.aP x) (hh:pZ st st'):fK st' x=fK st x:=by
 unfold fK;cases x<;>try (simp only[Hs hp hx hh];done)
 ·rename_i cs;have:cs.map (cA st')=cs.map (cA st):=List.map_congr_left fun c hc=>Hs hp (hx.agg c hc) hh
  simp only[this]
 ·rename_i f cs;have:cs.map (cA st')=cs.map (cA st):=List.map_congr_left fun c hc=>Hs hp (hx.uO c hc) hh
  simp only[this]
theorem HQ {T:Nat} {x y:AV} (hx:mP st.aP x) (hh:pZ st st'):pT P st' T x y=pT P st T x y:=by
 unfold pT;cases x<;>try rfl
 simp only[hh _ _ hx.ptr]
theorem BK {T:Nat} {s x:AV} (hs:mP st.aP s) (hx:mP st.aP x) (hh:pZ st st'):dE P st' T s x=dE P st T s x:=by
 unfold dE;simp only[sM hx hh];cases s
 case own=>simp only[hh _ _ hs.own]
 case v y =>
  cases y
  case slice p n c=>cases p<;>cases n<;>cases c<;>rfl
  all_goals rfl
 all_goals rfl
theorem BL {T:Nat} {s x:AV} (hs:mP st.aP s) (hx:mP st.aP x) (hh:pZ st st'):kY P st' T s x=kY P st T s x:=by
 unfold kY;rw[sM hx hh];cases dM P T with
 | none=>rfl
 | some t=>cases aR st x with
   | none=>rfl
   | some mn =>
     cases s<;>try rfl
     case vw s g o n =>
      cases o with
      | zero=>simp only[hh _ _ hs.vw]
      | succ o=>rfl
theorem HR {T:Nat} {x:AV} (hx:mP st.aP x) (hh:pZ st st'):rV P st' T x=rV P st T x:=by
 unfold rV;cases dM P T with
 | none=>rfl
 | some t =>
   cases x<;>try rfl
   case vw s g o n=>simp only[hh _ _ hx.vw]
   case v y =>
    cases y<;>try rfl
    rename_i p n c;cases p<;>cases n<;>cases c<;>rfl
   case sl n cs=>cases n<;>rfl
theorem Td {T:Nat} {x:AV} {lo:Option Operand} {hi mx:Operand} (hx:∀s g,x=.own s g→st'.heap s g=st.heap s g) (hl:∀p,lo=some p→st'.ev p=st.ev p) (h1:st'.ev hi=st.ev hi) (h2:st'.ev mx=st.ev mx):vX P st' T x lo hi mx=vX P st T x lo hi mx:=by
 unfold vX;rw[h1,h2];cases dM P T with
 | none=>rfl
 | some t =>
   simp only
   cases lo with
   | none =>
     simp only
     cases x<;>try rfl
     case own s g=>simp only[hx s g rfl]
     case v y =>
      cases y<;>try rfl
      rename_i p n c;cases p<;>cases n<;>cases c<;>rfl
   | some l =>
     simp only[hl l rfl];cases x<;>try rfl
     case own s g=>simp only[hx s g rfl]
     case v y =>
      cases y<;>try rfl
      rename_i p n c;cases p<;>cases n<;>cases c<;>rfl
theorem OF {T:Nat} {m x:AV} {ok:Bool} (hm:mP st.aP m) (hh:pZ st st'):Sm P st' T m x ok=Sm P st T m x ok:=by
 unfold Sm;cases m<;>try rfl
 simp only[hh _ _ hm.mp]
theorem BM {T:Nat} {m x y:AV} (hm:mP st.aP m) (hh:pZ st st'):tQ P st' T m x y=tQ P st T m x y:=by
 unfold tQ;cases m<;>try rfl
 simp only[hh _ _ hm.mp]
theorem HS {r:AV} {dst:Option Nat} (hc:∀d,dst=some d→st'.aP d=st.aP d):jA r st' dst=jA r st dst:=by
 unfold jA;cases dst with
 | none=>rfl
 | some d=>simp only[hc d rfl]
theorem yB (hp:BJ st) {g:Nat} {args:List AV} {dst:Option Nat} (hx:∀x∈args,mP st.aP x) (hh:pZ st st') (hc:∀d,dst=some d→st'.aP d=st.aP d):aL call g args st' dst=aL call g args st dst:=by
 unfold aL;have:args.map (fK st')=args.map (fK st):=List.map_congr_left fun x Ja=>Yf hp (hx x Ja) hh
 rw[this];have h2:∀r,jA r st' dst=jA r st dst:=fun r=>HS hc
 simp only[h2]
theorem HT (hp:BJ st) {g:Nat} {args:List AV} {dst:Option Nat} (hx:∀x∈args,mP st.aP x) (hh:pZ st st') (hc:∀d,dst=some d→st'.aP d=st.aP d):lN call g args st' dst=lN call g args st dst:=by
 unfold lN;split
 ·rename_i s k rest;rw[hh _ _ (hx _ (List.mem_cons_self ..)).own];cases dst with
  | none=>rfl
  | some d=>simp only[hc d rfl]
 ·rw[yB hp hx hh hc]
theorem BN (hp:BJ st) {g:Nat} {args:List AV} {dst:Option Nat} (hx:∀x∈args,mP st.aP x) (hh:pZ st st') (hc:∀d,dst=some d→st'.aP d=st.aP d):fF call g args st' dst=fF call g args st dst:=by
 have h1:=yB (call:=call) (g:=g) hp hx hh hc
 have:args.map (fK st')=args.map (fK st):=List.map_congr_left fun x Ja=>Yf hp (hx x Ja) hh
 unfold fF;rw[this,h1];have h2:∀r s k,Ea r st' dst s k=Ea r st dst s k:=fun r s k=>by
  unfold Ea;cases dst with
  | none=>cases r<;>rfl
  | some d=>cases r<;>simp only[hc d rfl]
 simp only[h2]
theorem Ol {parts:List (Nat × Operand)} (h:∀p∈parts,st'.ev p.2=st.ev p.2):(parts.map fun p=>(p.1,st'.ev p.2))=parts.map fun p=>(p.1,st.ev p.2) :=
 List.map_congr_left fun p hp=>by rw[h p hp]
theorem Vg {parts:List (Nat × Operand)} (h:∀p∈parts,st'.ev p.2=st.ev p.2):(parts.all fun p=>(st'.ev p.2).jD)=parts.all fun p=>(st.ev p.2).jD:=by
 induction parts with
 | nil=>rfl
 | cons p ps ih =>
   simp only[List.all_cons];rw[h p (by simp),ih fun q hq=>h q (by simp[hq])]
theorem D3 {aP:Nat→Nat} {x:AV} {g:Nat} {nN:List AV} (h:FJ x=some (g,nN)) (hx:mP aP x):∀c∈nN,mP aP c:=by
 unfold FJ at h;split at h
 ·split at h
  ·simp only[Option.some.injEq,Prod.mk.injEq] at h;obtain⟨rfl,rfl⟩:=h
   simp
  ·cases h
 ·simp only[Option.some.injEq,Prod.mk.injEq] at h;obtain⟨rfl,rfl⟩:=h
  exact hx.uO
 ·cases h
variable [Ext]
theorem BO (hp:BJ st) {c:Call} {dst:Option Nat} (he:∀p∈c.operands,st'.ev p=st.ev p) (hi:∀p∈c.operands,mP st.aP (st.ev p)) (hh:pZ st st') (hc:∀d,dst=some d→st'.aP d=st.aP d) :
 iJ P call c dst st'=iJ P call c dst st:=by
 have wS:∀p∈c.args.toList,p∈c.operands:=fun p hp=>by simp[Call.operands];right;simpa using hp
 unfold iJ;split
 ·rename_i f hf;have hfo:f∈c.operands:=by simp[Call.operands,hf]
  have hm:c.args.toList.map st'.ev=c.args.toList.map st.ev:=List.map_congr_left fun p hp=>he p (wS p hp)
  have hia:∀x∈c.args.toList.map st.ev,mP st.aP x:=fun x hx=>by
   obtain⟨p,hp,rfl⟩:=List.mem_map.1 hx
   exact hi p (wS p hp)
  unfold oA;rw[hm];split
  ·split
   ·exact HT hp hia hh hc
   ·split
    ·exact BN hp hia hh hc
    ·exact yB hp hia hh hc
  ·rw[he f hfo];cases h:FJ (st.ev f) with
   | none=>rfl
   | some gc =>
     obtain⟨g,nN⟩:=gc
     refine yB hp (fun x hx=>?_) hh hc
     rcases List.mem_append.1 hx with hx|hx
     ·exact hia x hx
     ·exact D3 h (hi f hfo) x hx
 ·split
  ·rename_i x T hx hT;have W8:=wS x (by rw[hx];simp)
   rw[he x W8,sM (hi x W8) hh]
  ·rfl
 ·split
  ·rename_i x y hx;rw[he x (wS x (by rw[hx];simp)),he y (wS y (by rw[hx];simp))]
  ·rfl
 ·split
  ·rename_i x y hx;rw[he x (wS x (by rw[hx];simp)),he y (wS y (by rw[hx];simp))]
  ·rfl
 ·cases dst with
  | none=>rfl
  | some d =>
  simp only[cN];split
  ·rename_i s x T T' hx hT
   have hso:=wS s (by rw[hx];simp)
   have W8:=wS x (by rw[hx];simp)
   have hn:Gp P st' T (st'.ev s) (st'.ev x)=Gp P st T (st.ev s) (st.ev x):=by simp only[Gp,he s hso,he x W8,sM (hi x W8) hh]
   rw[hn,he s hso,he x W8,BK (hi s hso) (hi x W8) hh,BL (hi s hso) (hi x W8) hh,hc d rfl]
  ·rfl
 ·split
  ·rename_i x T hx hT;have W8:=wS x (by rw[hx];simp)
   rw[he x W8,HR (hi x W8) hh]
  ·rfl
 ·rfl
theorem OG (hp:BJ st) {o:Oper} (he:∀p∈o.op.operands,st'.ev p=st.ev p) (hi:∀p∈o.op.operands,mP st.aP (st.ev p)) (hh:pZ st st') (hc:∀d,o.dst=some d→st'.aP d=st.aP d) :
 dI P call o st'=dI P call o st:=by
 obtain⟨dst,op,type,pos,after,guard⟩:=o
 cases op<;>simp only[dI,iV,Op.operands] at *
 case call c=>exact BO hp he hi hh hc
 case alloc T=>cases dst with
  | none=>rfl
  | some d=>simp only[cN,hc d rfl]
 case box T x=>cases dst with
  | none=>rfl
  | some d=>simp only[cN,hc d rfl,he x (by simp)]
 case buildSlice T n parts =>
  have Ad:∀p∈parts.toList,st'.ev p.2=st.ev p.2:=fun p hp=>he p.2 (by simp;exact⟨p.1,by simpa using hp⟩)
  rw[Ol Ad,Vg Ad];cases dst with
  | none=>rfl
  | some d=>simp only[cN,hc d rfl]
 case makeSlice T l c =>
  rw[he l (by simp),he c (by simp)]
  cases dst with
  | none=>rfl
  | some d=>simp only[cN,hc d rfl]
 case makeMap T r =>
  cases r with
  | none=>cases dst with
    | none=>rfl
    | some d=>simp only[cN,hc d rfl]
  | some r=>rfl
 case mapUpdate T m x y=>rw[he m (by simp),he x (by simp),he y (by simp),BM (hi m (by simp)) hh]
 case lookup T m x ok=>rw[he m (by simp),he x (by simp),OF (hi m (by simp)) hh]
 case store T x y=>rw[he x (by simp),he y (by simp),HQ (hi x (by simp)) hh]
 case move x=>rw[he x (by simp)]
 case assign x=>rw[he x (by simp)]
 case pick c x y=>rw[he c (by simp),he x (by simp),he y (by simp)]
 case binOp op T x y yT=>rw[he x (by simp),he y (by simp)]
 case unOp op T x=>rw[he x (by simp)]
 case convert s d x=>rw[he x (by simp)]
 case nilCheck x=>rw[he x (by simp)]
 case field T x f=>rw[he x (by simp)]
 case fieldAddr T x f=>rw[he x (by simp)]
 case indexAddr T x i=>rw[he x (by simp),he i (by simp),Rj (hi x (by simp)) hh]
 case load T x=>rw[he x (by simp),HO (hi x (by simp)) hh]
 case extract t i=>rw[he t (by simp)]
 case build T parts =>
  have Ad:∀p∈parts.toList,st'.ev p.2=st.ev p.2:=fun p hp=>he p.2 (by simp;exact⟨p.1,by simpa using hp⟩)
  unfold iU;rw[Ol Ad,Vg Ad]
 case slice T x lo Cl mx =>
  cases mx with
  | some m =>
    cases Cl with
    | none=>rfl
    | some h =>
      simp only
      rw[he x (by simp),Td (fun s g hx=>by have:=hi x (by simp);rw[hx] at this;exact hh _ _ this.own) (fun p hp=>he p (by simp[hp])) (he h (by simp)) (he m (by simp))]
  | none =>
    simp only
    rw[he x (by simp),HP (hi x (by simp)) hh (fun p hp=>he p (by simp[hp])) (fun p hp=>he p (by simp[hp]))]
 case makeFunc fn first captured =>
  cases fn with
  | func f =>
    simp only
    have:captured.toList.map st'.ev=captured.toList.map st.ev:=List.map_congr_left fun p hp=>he p (by simp;right;simpa using hp)
    rw[this]
  | _=>rfl
theorem HU {ops:Array Oper} {o:Oper} (Ag:mS ops o=0∨mS ops o=2) (he:∀p∈o.op.operands,st'.ev p=st.ev p) (hc:∀d,o.dst=some d→st'.aP d=st.aP d) :
 dI P call o st'=dI P call o st:=by
 obtain⟨dst,op,type,pos,after,guard⟩:=o
 cases op<;>simp only[dI,iV,Op.operands,mS] at *
 case call c =>
  exfalso
  obtain⟨callee,args,tH⟩:=c
  cases callee with
  | builtin b=>cases b<;>simp at Ag;split at Ag<;>simp at Ag
  | value f=>cases f<;>simp at Ag;split at Ag<;>(try split at Ag)<;>(try split at Ag)<;>simp at Ag
  | _=>simp at Ag
 case alloc T=>cases dst with
  | none=>rfl
  | some d=>simp only[cN,hc d rfl]
 case box T x=>cases dst with
  | none=>rfl
  | some d=>simp only[cN,hc d rfl,he x (by simp)]
 case buildSlice T n parts =>
  have Ad:∀p∈parts.toList,st'.ev p.2=st.ev p.2:=fun p hp=>he p.2 (by simp;exact⟨p.1,by simpa using hp⟩)
  rw[Ol Ad,Vg Ad];cases dst with
  | none=>rfl
  | some d=>simp only[cN,hc d rfl]
 case makeSlice T l c =>
  rw[he l (by simp),he c (by simp)]
  cases dst with
  | none=>rfl
  | some d=>simp only[cN,hc d rfl]
 case makeMap T r =>
  cases r with
  | none=>cases dst with
    | none=>rfl
    | some d=>simp only[cN,hc d rfl]
  | some r=>rfl
 case mapUpdate T m x y=>simp at Ag
 case lookup T m x ok=>simp at Ag
 case store T x y=>simp at Ag
 case move x=>rw[he x (by simp)]
 case assign x=>rw[he x (by simp)]
 case pick c x y=>rw[he c (by simp),he x (by simp),he y (by simp)]
 case binOp op T x y yT=>rw[he x (by simp),he y (by simp)]
 case unOp op T x=>rw[he x (by simp)]
 case convert s d x=>rw[he x (by simp)]
 case nilCheck x=>rw[he x (by simp)]
 case field T x f=>rw[he x (by simp)]
 case fieldAddr T x f=>rw[he x (by simp)]
 case indexAddr T x i=>simp at Ag
 case load T x=>simp at Ag
 case extract t i=>rw[he t (by simp)]
 case build T parts =>
  have Ad:∀p∈parts.toList,st'.ev p.2=st.ev p.2:=fun p hp=>he p.2 (by simp;exact⟨p.1,by simpa using hp⟩)
  unfold iU;rw[Ol Ad,Vg Ad]
 case slice T x lo Cl mx=>simp at Ag
 case makeFunc fn first captured =>
  cases fn with
  | func f =>
    simp only
    have:captured.toList.map st'.ev=captured.toList.map st.ev:=List.map_congr_left fun p hp=>he p (by simp;right;simpa using hp)
    rw[this]
  | _=>rfl
end
end Go.Ab
end
section
namespace Go.Ab
open Classical
section
variable {P:Program} {call:Nat→List AV→Option AV} {st st':St} {ops:Array Oper}
theorem Om {r:AV} {dst:Option Nat} {e:rC} (h:jA r st dst=some e):e.dst=dst∧e.dK=none∧∀d x,e.new=some (d,x)→dst=some d:=by
 unfold jA at h;split at h
 ·simp only[Option.some.injEq] at h;subst h;exact⟨rfl,rfl,fun d x h=>by simp at h⟩
 ·cases dst with
  | none=>cases h
  | some d=>simp only[Option.some.injEq] at h;subst h;exact⟨rfl,rfl,fun d x h=>by simp at h;rw[h.1]⟩
theorem yC {g:Nat} {args:List AV} {dst:Option Nat} {e:rC} (h:aL call g args st dst=some e):e.dst=dst∧e.dK=none∧∀d x,e.new=some (d,x)→dst=some d:=by
 unfold aL at h;split at h
 ·cases hc:call g args with
  | none=>simp[hc,cN] at h
  | some r=>simp only[hc,cN] at h;exact Om h
 ·split at h
  ·rename_i xs _;cases hc:call g xs with
   | none=>simp[hc,cN] at h
   | some r =>
     simp only[hc,cN] at h;split at h
     ·exact Om h
     ·cases h
  ·cases h
theorem On {g:Nat} {args:List AV} {dst:Option Nat} {e:rC} (h:lN call g args st dst=some e):e.dst=dst∧(∀d x,e.new=some (d,x)→dst=some d)∧∀s k x,e.dK=some (s,k,x)→args.head? = some (.own s k):=by
 unfold lN at h;split at h
 ·split at h
  ·split at h
   ·split at h
    ·cases dst with
     | none=>cases h
     | some d =>
       simp only[Option.some.injEq] at h;subst h;exact⟨rfl,fun d x h=>by simp at h;rw[h.1],fun s k x h=>by simp at h;simp[h.1,h.2.1]⟩
    ·simp only[Option.some.injEq] at h;subst h;exact⟨rfl,fun d x h=>by simp at h,fun s k x h=>by simp at h;simp[h.1,h.2.1]⟩
    ·cases h
   ·cases h
  ·cases h
 ·split at h
  ·obtain⟨h1,h2,h3⟩:=yC h
   exact⟨h1,h3,fun s k x h=>by rw[h2] at h;cases h⟩
  ·cases h
theorem BP {g:Nat} {args:List AV} {dst:Option Nat} {e:rC} (h:fF call g args st dst=some e):e.dst=dst∧(∀d x,e.new=some (d,x)→dst=some d)∧∀s k x,e.dK=some (s,k,x)→∃y∈args,y=.own s k∨∃cs,y=.agg cs∧.own s k∈cs:=by
 unfold fF at h;split at h
 ·rename_i s k hk;split at h
  ·split at h
   ·rename_i xs _;cases hc:call g xs with
    | none=>simp[hc,cN] at h
    | some r =>
      simp only[hc,cN] at h;have hu:e.dK=some (s,k,none)∧e.dst=dst∧∀d x,e.new=some (d,x)→dst=some d:=by
       rcases Ok h with ⟨_,rfl⟩|⟨_,e1,sz,n,cs,d,rfl,rfl,_,rfl⟩
       ·exact⟨rfl,rfl,fun d x h=>by simp at h⟩
       ·exact⟨rfl,rfl,fun d x h=>by simp at h;rw[h.1]⟩
      ·refine⟨hu.2.1,hu.2.2,fun s' k' x h=>?_⟩
       rw[hu.1] at h;simp only[Option.some.injEq,Prod.mk.injEq] at h;obtain⟨rfl,rfl,_⟩:=h
       have hm:(s,k)∈args.flatMap jE:=by rw[hk];simp
       obtain⟨y,hy,hyk⟩:=List.mem_flatMap.1 hm
       refine⟨y,hy, ?_⟩
       have key:∀c,(s,k)∈gJ c→c=.own s k:=fun c hc=>by
        cases c<;>simp[gJ] at hc
        obtain⟨rfl,rfl⟩:=hc
        rfl
       cases y with
       | agg cs =>
         obtain⟨c,hc,hck⟩:=List.mem_flatMap.1 (show (s,k)∈cs.flatMap gJ from hyk)
         exact .inr ⟨cs,rfl,by rw[← key c hck];exact hc⟩
       | own a b=>exact .inl (key _ hyk)
       | _=>simp[jE,gJ] at hyk
   ·cases h
  ·cases h
 ·obtain⟨h1,h2,h3⟩:=yC h
  exact⟨h1,h3,fun s k x h=>by rw[h2] at h;cases h⟩
theorem oM (e:rC) (t:Nat):(e.apply st).env t=if e.dst=some t then e.val else st.env t:=by
 have h2:∀(s1:St),(s1.put e.dst e.val).env t=if e.dst=some t then e.val else s1.env t:=fun s1=>by
  cases hd:e.dst with
  | none=>simp[St.put]
  | some d =>
    simp only[St.put,Option.some.injEq];by_cases h:t=d
    ·subst h;simp
    ·rw[if_neg h,if_neg (fun h'=>h h'.symm)]
 unfold rC.apply;rw[h2];cases e.dK<;>cases e.new<;>rfl
theorem lM (e:rC) (s:Nat):(e.apply st).aP s=match e.new with
 | some (d,es)=>if s=d then st.aP d+es.length else st.aP s
 | none=>st.aP s:=by
 unfold rC.apply;rw[XQ];cases e.dK<;>cases e.new<;>rfl
theorem sW (e:rC) (s g:Nat):(e.apply st).heap s g=match e.new with
 | some (d,es)=>if s=d∧st.aP d≤g∧g-st.aP d<es.length then es[g-st.aP d]? else (match e.dK with
   | some (s0,g0,y)=>if s=s0∧g=g0 then y else st.heap s g
   | none=>st.heap s g)
 | none=>(match e.dK with
   | some (s0,g0,y)=>if s=s0∧g=g0 then y else st.heap s g
   | none=>st.heap s g):=by
 unfold rC.apply;rw[Vr];cases e.dK<;>cases e.new<;>rfl
theorem W9 {o:Oper} (h:∀j want d,o.guard=some (j,want)→(ops[j]?).bind (·.dst)=some d→st'.env d=st.env d):gv ops st' o.guard=gv ops st o.guard:=by
 unfold gv;cases hg:o.guard with
 | none=>rfl
 | some jw =>
   obtain⟨j,want⟩:=jw
   simp only
   cases hd:(ops[j]?).bind (·.dst) with
   | none=>rfl
   | some d=>simp only[h j want d hg hd]
theorem X0 {a b:St} (h1:a.env=b.env) (h2:a.heap=b.heap) (h3:a.aP=b.aP):a=b:=by
 cases a;cases b;simp_all
theorem Yg {T:Nat} {p x:AV} {u:Nat × Nat × nM × Nat} (h:kY P st T p x=some u):∃n,p=.vw u.1 u.2.1 0 n:=by
 unfold kY at h;split at h
 ·split at h
  ·split at h
   ·simp only[Option.some.injEq] at h;subst h;exact⟨_,rfl⟩
   ·cases h
  ·cases h
 ·cases h
theorem D4 {T:Nat} {p:AV} {u:Nat × Nat × nM} (h:rV P st T p=some (some u)):∃o n,p=.vw u.1 u.2.1 o n:=by
 unfold rV at h;split at h
 ·split at h
  ·split at h
   ·simp only[Option.some.injEq] at h;subst h;exact⟨_,_,rfl⟩
   ·cases h
  ·cases h
 ·simp at h
 ·simp at h
 ·cases h
variable [Ext]
theorem OH {o:Oper} {e:rC} (h:dI P call o st=some e) :
 e.dst=o.dst∧(∀d x,e.new=some (d,x)→o.dst=some d)∧(∀s g x,e.dK=some (s,g,x)→mS ops o=3∧∃p∈o.op.operands,(∃off,st.ev p=.ptr s g off)∨st.ev p=.own s g∨st.ev p=.mp s g∨(∃cs,st.ev p=.agg cs∧.own s g∈cs)∨∃o n,st.ev p=.vw s g o n):=by
 obtain⟨dst,op,type,pos,after,guard⟩:=o
 have val:∀x:Option AV,(x.map fun y=>({ dst:=dst,val:=y }:rC))=some e→e.dst=dst∧(∀d x,e.new=some (d,x)→dst=some d)∧(∀s g x,e.dK≠some (s,g,x)):=fun x h=>by
  cases x with
  | none=>simp at h
  | some y=>simp at h;subst h;exact⟨rfl,fun d x h=>by simp at h,fun s g x h=>by simp at h⟩
 cases op
 case call c =>
  simp only[dI] at h;unfold iJ at h;split at h
  ·rename_i f hc;unfold oA at h;split at h
   ·rename_i g;split at h
    ·rename_i hmv;obtain⟨h1,h2,h3⟩:=On h
     refine⟨h1,h2,fun s k x hu=>?_⟩
     have hh:=h3 s k x hu
     obtain⟨callee,args,tH⟩:=c
     simp only at hc hh
     subst hc;cases hl:args.toList with
     | nil=>rw[hl] at hh;simp at hh
     | cons p ps =>
       rw[hl] at hh;simp only[List.map_cons,List.head?_cons,Option.some.injEq] at hh;refine⟨?_,p, ?_,.inr (.inl hh)⟩
       ·simp only[mS,hl,hmv];cases p with
        | const v=>simp[St.ev] at hh
        | _=>simp
       simp only[Op.operands,Call.operands];simp
       right
       rw[← Array.mem_toList_iff,hl];simp
    ·split at h
     ·rename_i heat;obtain⟨h1,h2,h3⟩:=BP h
      refine⟨h1,h2,fun s k x hu=>?_⟩
      obtain⟨y,hy,hyo⟩:=h3 s k x hu
      obtain⟨callee,args,tH⟩:=c
      simp only at hc hy
      subst hc;refine⟨by simp[mS,heat], ?_⟩
      obtain⟨p,hp,rfl⟩:=List.mem_map.1 hy
      refine⟨p, ?_, ?_⟩
      ·simp only[Op.operands,Call.operands];simp
       right
       simpa using hp
      ·rcases hyo with h|⟨cs,h,hm⟩
       ·exact .inr (.inl h)
       ·exact .inr (.inr (.inr (.inl ⟨cs,h,hm⟩)))
     ·obtain⟨h1,h2,h3⟩:=yC h
      exact⟨h1,h3,fun s g x h=>by rw[h2] at h;cases h⟩
   ·split at h
    ·obtain⟨h1,h2,h3⟩:=yC h
     exact⟨h1,h3,fun s g x h=>by rw[h2] at h;cases h⟩
    ·cases h
  ·split at h
   ·split at h
    ·simp only[Option.some.injEq] at h;subst h;exact⟨rfl,fun d x h=>by simp at h,fun s g x h=>by simp at h⟩
    ·cases h
   ·cases h
  ·split at h
   ·split at h
    ·simp only[Option.some.injEq] at h;subst h;exact⟨rfl,fun d x h=>by simp at h,fun s g x h=>by simp at h⟩
    ·cases h
   ·cases h
  ·split at h
   ·split at h
    ·simp only[Option.some.injEq] at h;subst h;exact⟨rfl,fun d x h=>by simp at h,fun s g x h=>by simp at h⟩
    ·cases h
   ·cases h
  ·rename_i hc;cases dst with
   | none=>simp[cN] at h
   | some d =>
     simp only[cN] at h;split at h
     ·rename_i s x T T' hx hT
      split at h
      ·split at h
       ·cases nU:kY P st T (st.ev s) (st.ev x) with
        | none=>simp[nU] at h
        | some u =>
        simp only[nU,Option.map_some,Option.some.injEq] at h;subst h;refine⟨rfl,nofun,fun s' g' x' hu=>?_⟩
        simp only[Option.some.injEq,Prod.mk.injEq] at hu;obtain⟨rfl,rfl,rfl⟩:=hu
        obtain⟨n0,zQ⟩:=Yg nU
        refine⟨?_,s, ?_,.inr (.inr (.inr (.inr ⟨0,n0,zQ⟩)))⟩
        ·obtain⟨callee,args,tH⟩:=c
         simp only at hc hx
         subst hc;simp only[mS,hx];cases s with
         | const v =>
           simp[St.ev] at zQ
         | _=>rfl
        ·simp only[Op.operands,Call.operands,hc];simp
         rw[← Array.mem_toList_iff,hx];simp
       split at h
       ·simp only[Option.some.injEq] at h;subst h;exact⟨rfl,nofun,nofun⟩
       cases nU:dE P st T (st.ev s) (st.ev x) with
       | none=>simp[nU] at h
       | some ur =>
         obtain⟨u,r⟩:=ur
         simp only[nU,Option.some.injEq] at h;subst h;refine⟨rfl,fun d x h=>by simp at h;rw[h.1],fun s' g' x' hu=>?_⟩
         simp only[Option.map_eq_some_iff] at hu;obtain⟨⟨s2,g2⟩,hu1,hu2⟩:=hu
         simp only[Prod.mk.injEq] at hu2;obtain⟨rfl,rfl,rfl⟩:=hu2
         subst hu1;have zQ:st.ev s=.own s2 g2:=by
          unfold dE at nU;split at nU
          ·split at nU
           ·split at nU
            ·split at nU
             ·split at nU<;>simp at nU
             ·rename_i s3 g3 hs3;split at nU
              ·split at nU
               ·simp only[Option.some.injEq,Prod.mk.injEq] at nU;obtain⟨⟨rfl,rfl⟩,_⟩:=nU
                exact hs3
               ·cases nU
              ·cases nU
             ·split at nU<;>simp at nU
             ·cases nU
            ·cases nU
           ·cases nU
          ·cases nU
         refine⟨?_,s, ?_,.inr (.inl zQ)⟩
         ·obtain⟨callee,args,tH⟩:=c
          simp only at hc hx
          subst hc;simp only[mS,hx];cases s with
          | const v =>
            simp[St.ev] at zQ
          | _=>rfl
         ·simp only[Op.operands,Call.operands,hc];simp
          rw[← Array.mem_toList_iff,hx];simp
      ·cases h
     ·cases h
  ·rename_i hc;split at h
   ·rename_i x T hx hT;cases nU:rV P st T (st.ev x) with
    | none=>simp[nU] at h
    | some u =>
      simp only[nU,Option.map_some,Option.some.injEq] at h;subst h;refine⟨rfl,nofun,fun s' g' x' hu=>?_⟩
      simp only[Option.map_eq_some_iff,Prod.mk.injEq] at hu;obtain⟨p,rfl,rfl,rfl,_⟩:=hu
      obtain⟨o,n,zQ⟩:=D4 nU
      refine⟨?_,x, ?_,.inr (.inr (.inr (.inr ⟨o,n,zQ⟩)))⟩
      ·obtain⟨callee,args,tH⟩:=c
       simp only at hc
       subst hc;rfl
      ·simp only[Op.operands,Call.operands,hc];simp
       rw[← Array.mem_toList_iff,hx];simp
   ·cases h
  ·cases h
 case store T x y =>
  simp only[dI] at h;cases hs:pT P st T (st.ev x) (st.ev y) with
  | none=>simp[hs] at h
  | some u =>
    obtain⟨s,g,e'⟩:=u
    simp only[hs,Option.map_some,Option.some.injEq] at h;subst h;refine⟨rfl,fun d x h=>by simp at h,fun s' g' x' hu=>⟨rfl,x,by simp[Op.operands],.inl ?_⟩⟩
    simp only[Option.some.injEq,Prod.mk.injEq] at hu;obtain⟨rfl,rfl,_⟩:=hu
    unfold pT at hs;split at hs
    ·rename_i s1 g1 o1 hp;refine⟨o1, ?_⟩
     rw[hp];split at hs
     ·split at hs
      ·split at hs
       ·split at hs
        ·simp only[Option.some.injEq,Prod.mk.injEq] at hs;rw[hs.1,hs.2.1]
        ·cases hs
       ·split at hs
        ·simp only[Option.some.injEq,Prod.mk.injEq] at hs;rw[hs.1,hs.2.1]
        ·cases hs
       ·cases hs
      ·cases hs
     ·cases hs
    ·cases hs
 case alloc T =>
  simp only[dI] at h;cases dst with
  | none=>simp[cN] at h
  | some d=>cases hz:dZ P T with
    | none=>simp[hz,cN] at h
    | some z=>simp only[hz,cN,Option.some.injEq] at h;subst h;exact⟨rfl,fun d x h=>by simp at h;rw[h.1],fun s g x h=>by simp at h⟩
 case box T x =>
  simp only[dI] at h;cases dst with
  | none=>simp[cN] at h
  | some d =>
    simp only[cN] at h;split at h
    ·simp only[Option.some.injEq] at h;subst h;exact⟨rfl,fun d x h=>by simp at h;rw[h.1],fun s g x h=>by simp at h⟩
    ·cases h
 case buildSlice T n parts =>
  simp only[dI] at h;cases dst with
  | none=>simp[cN] at h
  | some d=>cases hs:dM P T with
    | none=>simp[hs,cN] at h
    | some t=>cases hz:dZ P t.1 with
      | none=>simp[hs,hz,cN] at h
      | some z =>
        simp only[hs,hz,cN] at h;split at h
        ·cases hf:gT (fun i=>some (i * t.2.1,t.2.1)) ((List.range n).flatMap fun _=>z.map .v) (parts.toList.map fun p=>(p.1,st.ev p.2)) with
         | none=>simp[hf] at h
         | some cs=>simp only[hf,Option.some.injEq] at h;subst h;exact⟨rfl,fun d x h=>by simp at h;rw[h.1],fun s g x h=>by simp at h⟩
        ·cases h
 case makeSlice T l c =>
  simp only[dI] at h;cases dst with
  | none=>simp[cN] at h
  | some d=>cases hs:dM P T with
    | none=>simp[hs,cN] at h
    | some t=>cases hz:dZ P t.1 with
      | none=>simp[hs,hz,cN] at h
      | some z =>
        simp only[hs,hz,cN] at h;split at h
        ·split at h
         ·simp only[Option.some.injEq] at h;subst h;exact⟨rfl,fun d x h=>by simp at h;rw[h.1],fun s g x h=>by simp at h⟩
         ·cases h
        ·cases h
 case makeMap T r =>
  cases r with
  | none =>
    simp only[dI] at h;cases dst with
    | none=>simp[cN] at h
    | some d=>simp only[cN,Option.some.injEq] at h;subst h;exact⟨rfl,fun d x h=>by simp at h;rw[h.1],fun s g x h=>by simp at h⟩
  | some r =>
    simp only[dI] at h;obtain⟨h1,h2,h3⟩:=val _ h
    exact⟨h1,h2,fun s g x hu=>absurd hu (h3 s g x)⟩
 case mapUpdate T m x y =>
  simp only[dI] at h;cases hs:tQ P st T (st.ev m) (st.ev x) (st.ev y) with
  | none=>simp[hs] at h
  | some u =>
    obtain⟨s,g,e'⟩:=u
    simp only[hs,Option.map_some,Option.some.injEq] at h;subst h;refine⟨rfl,fun d x h=>by simp at h,fun s' g' x' hu=>⟨rfl,m,by simp[Op.operands],.inr (.inr (.inl ?_))⟩⟩
    simp only[Option.some.injEq,Prod.mk.injEq] at hu;obtain⟨rfl,rfl,_⟩:=hu
    unfold tQ at hs;split at hs
    ·rename_i s1 g1 hp;rw[hp];split at hs
     ·split at hs
      ·simp only[Option.some.injEq,Prod.mk.injEq] at hs;rw[hs.1,hs.2.1]
      ·cases hs
     ·cases hs
    ·cases hs
 all_goals
  simp only[dI] at h;obtain⟨h1,h2,h3⟩:=val _ h
  exact⟨h1,h2,fun s g x hu=>absurd hu (h3 s g x)⟩
noncomputable def rS (P:Program) (call:Nat→List AV→Option AV) (ops:Array Oper) (o:Oper) (st:St):Option rC :=
 match gv ops st o.guard with
 | some b=>if b=true then dI P call o st else some { dst:=o.dst,val:=.v undef }
 | none=>none
theorem Fa (o:Oper):cF P call ops o st=(rS P call ops o st).map fun e=>e.apply st:=by
 unfold cF rS;cases gv ops st o.guard with
 | none=>rfl
 | some b=>cases b<;>rfl
theorem oW {o:Oper} {e:rC} (h:rS P call ops o st=some e) :
 e.dst=o.dst∧(∀d x,e.new=some (d,x)→o.dst=some d)∧(∀s g x,e.dK=some (s,g,x)→mS ops o=3∧∃p∈o.op.operands,(∃off,st.ev p=.ptr s g off)∨st.ev p=.own s g∨st.ev p=.mp s g∨(∃cs,st.ev p=.agg cs∧.own s g∈cs)∨∃o n,st.ev p=.vw s g o n):=by
 unfold rS at h;split at h
 ·split at h
  ·exact OH h
  ·simp only[Option.some.injEq] at h;subst h;exact⟨rfl,fun d x h=>by simp at h,fun s g x h=>by simp at h⟩
 ·cases h
theorem Te (hp:BJ st) {x y:Oper} {ex:rC} (nU:sJ ops x y=true∨sJ ops y x=true) (Lk:∀t,mP st.aP (st.env t)) (hx:rS P call ops x st=some ex) :
 rS P call ops y (ex.apply st)=rS P call ops y st:=by
 obtain⟨sd,sn,su⟩:=oW hx
 have ZB:(∀d,x.dst=some d→d ∉ y.looksAt ops)∧(∀d,x.dst=some d→y.dst≠some d):=by
  rcases nU with h|h
  ·simp only[sJ,Bool.and_eq_true] at h;obtain⟨h1,h2,_⟩:=Oper.apart_spec h.1
   exact⟨h1,h2⟩
  ·simp only[sJ,Bool.and_eq_true] at h;obtain⟨_,h2,h3⟩:=Oper.apart_spec h.1
   exact⟨h3,fun d hd hy=>h2 d hy hd⟩
 have henv:∀t,t∈y.looksAt ops→(ex.apply st).env t=st.env t:=fun t ht=>by
  rw[oM,if_neg];intro h;rw[sd] at h;exact ZB.1 t h ht
 have AS:∀p∈y.op.operands,(ex.apply st).ev p=st.ev p:=fun p hp=>by
  cases p with
  | tmp t=>exact henv t (by unfold Oper.looksAt;exact List.mem_append_left _ (List.mem_filterMap.2 ⟨.tmp t,by simpa using hp,rfl⟩))
  | _=>rfl
 have X3:gv ops (ex.apply st) y.guard=gv ops st y.guard:=W9 fun j want d hg hd=>henv d (by
  unfold Oper.looksAt;apply List.mem_append_right
  rw[hg];simp[hd])
 have hcnt:∀d,y.dst=some d→(ex.apply st).aP d=st.aP d:=fun d hd=>by
  rw[lM];split
  ·rename_i d' z hn
   have:=sn d' z hn
   rw[if_neg];rintro rfl
   exact ZB.2 d this hd
  ·rfl
 have Ub:∀p∈y.op.operands,mP st.aP (st.ev p):=fun p hp=>by
  cases p with
  | tmp t=>exact Lk t
  | const v=>exact⟨⟨fun _ _=>False,fun _ _=>undef,st.aP⟩,v,rfl,.v v⟩
  | global g=>exact⟨⟨fun _ _=>False,fun _ _=>undef,st.aP⟩,_,rfl,.v _⟩
  | func f=>exact⟨⟨fun _ _=>False,fun _ _=>undef,st.aP⟩,_,rfl,.v _⟩
 have qC:dI P call y (ex.apply st)=dI P call y st:=by
  by_cases h3:mS ops x=3
  ·refine HU (ops:=ops) ?_ AS hcnt
   have hle:mS ops y=0∨mS ops y=1∨mS ops y=2∨mS ops y=3∨mS ops y=4:=by
    unfold mS;split<;>(try split)<;>(try split)<;>(try split)<;>simp
   rcases nU with h|h<;>simp only[sJ,Bool.and_eq_true,h3] at h<;>rcases hle with e|e|e|e|e<;>simp[e] at h ⊢
  ·have hnu:ex.dK=none:=by
    cases hu:ex.dK with
    | none=>rfl
    | some sgx=>exact absurd (su sgx.1 sgx.2.1 sgx.2.2 hu).1 h3
   refine OG hp AS Ub (fun s g bA=>?_) hcnt
   rw[sW,hnu];split
   ·rename_i d z hn;rw[if_neg];rintro⟨rfl,h,_⟩
    omega
   ·rfl
 unfold rS;rw[X3,qC]
theorem HV {o:Oper} {e:rC} {s g:Nat} {z:Option nM} (Lk:∀t,mP st.aP (st.env t)) (h:rS P call ops o st=some e) (hu:e.dK=some (s,g,z)):g<st.aP s:=by
 obtain⟨_,_,su⟩:=oW h
 obtain⟨_,p,hp,hv⟩:=su s g z hu
 have Ub:mP st.aP (st.ev p):=by
  cases p with
  | tmp t=>exact Lk t
  | const v=>exact⟨⟨fun _ _=>False,fun _ _=>undef,st.aP⟩,v,rfl,.v v⟩
  | global g=>exact⟨⟨fun _ _=>False,fun _ _=>undef,st.aP⟩,_,rfl,.v _⟩
  | func f=>exact⟨⟨fun _ _=>False,fun _ _=>undef,st.aP⟩,_,rfl,.v _⟩
 rcases hv with ⟨off,hv⟩|hv|hv|⟨cs,hv,hm⟩|⟨o,n,hv⟩
 ·rw[hv] at Ub;exact Ub.ptr
 ·rw[hv] at Ub;exact Ub.own
 ·rw[hv] at Ub;exact Ub.mp
 ·rw[hv] at Ub;exact (Ub.agg _ hm).own
 ·rw[hv] at Ub;exact Ub.vw
theorem aCF (hp:BJ st) {x y:Oper} (nU:sJ ops x y=true) (Lk:∀t,mP st.aP (st.env t)) {s1 s2:St} (hx:cF P call ops x st=some s1) (hy:cF P call ops y s1=some s2) :
 ∃s3,cF P call ops y st=some s3∧cF P call ops x s3=some s2:=by
 rw[Fa] at hx hy;cases hex:rS P call ops x st with
 | none=>simp[hex] at hx
 | some ex =>
   simp only[hex,Option.map_some,Option.some.injEq] at hx;subst hx;rw[Te hp (.inl nU) Lk hex] at hy;cases ZD:rS P call ops y st with
   | none=>simp[ZD] at hy
   | some ey =>
     simp only[ZD,Option.map_some,Option.some.injEq] at hy;subst hy;refine⟨ey.apply st,by rw[Fa,ZD];rfl, ?_⟩
     rw[Fa,Te hp (.inr nU) Lk ZD,hex];simp only[Option.map_some,Option.some.injEq];obtain⟨dx,nx,ux⟩:=oW hex
     obtain⟨dy,ny,uy⟩:=oW ZD
     have hd:∀d,x.dst=some d→y.dst≠some d:=by
      simp only[sJ,Bool.and_eq_true] at nU;exact (Oper.apart_spec nU.1).2.1
     have Ag:¬(ex.dK≠none∧ey.dK≠none):=by
      rintro⟨h1,h2⟩
      cases hu:ex.dK with
      | none=>exact h1 hu
      | some a=>cases hv:ey.dK with
        | none=>exact h2 hv
        | some b =>
          have e1:=(ux a.1 a.2.1 a.2.2 hu).1
          have e2:=(uy b.1 b.2.1 b.2.2 hv).1
          simp[sJ,e1,e2] at nU
     apply X0
     ·funext t
      rw[oM,oM,oM,oM,dx,dy];by_cases h1:x.dst=some t
      ·rw[if_pos h1,if_pos h1,if_neg (hd t h1)]
      ·rw[if_neg h1,if_neg h1]
     ·funext s g
      rw[sW,sW,sW,sW];have cx:∀d z,ey.new=some (d,z)→(ex.apply st).aP d=st.aP d:=fun d z hn=>by
       rw[lM];split
       ·rename_i d' z' Iq
        rw[if_neg];rintro rfl
        exact hd _ (nx _ _ Iq) (ny _ _ hn)
       ·rfl
      have cy:∀d z,ex.new=some (d,z)→(ey.apply st).aP d=st.aP d:=fun d z hn=>by
       rw[lM];split
       ·rename_i d' z' Iq
        rw[if_neg];rintro rfl
        exact hd _ (nx _ _ hn) (ny _ _ Iq)
       ·rfl
      cases D5:ex.new with
      | none =>
        cases SG:ey.new with
        | none =>
          cases hux:ex.dK with
          | none=>rfl
          | some a=>cases huy:ey.dK with
            | none=>rfl
            | some b=>exact absurd ⟨by rw[hux];simp,by rw[huy];simp⟩ Ag
        | some b =>
          obtain⟨d,z⟩:=b
          simp only[cx d z SG];cases hux:ex.dK with
          | none=>rfl
          | some a =>
            obtain⟨s0,g0,e0⟩:=a
            have bA:=HV Lk hex hux
            cases huy:ey.dK with
            | none =>
              simp only
              by_cases h1:s=d∧st.aP d≤g∧g-st.aP d<z.length
              ·rw[if_neg (by obtain⟨rfl,ha,hb⟩:=h1;rintro⟨rfl,rfl⟩;omega),if_pos h1,if_pos h1]
              ·rw[if_neg h1,if_neg h1]
            | some b=>exact absurd ⟨by rw[hux];simp,by rw[huy];simp⟩ Ag
      | some a =>
        obtain⟨d,z⟩:=a
        cases SG:ey.new with
        | none =>
          simp only[cy d z D5];cases huy:ey.dK with
          | none=>rfl
          | some a =>
            obtain⟨s0,g0,e0⟩:=a
            have bA:=HV Lk ZD huy
            cases hux:ex.dK with
            | none =>
              simp only
              by_cases h1:s=d∧st.aP d≤g∧g-st.aP d<z.length
              ·rw[if_pos h1,if_neg (by obtain⟨rfl,ha,hb⟩:=h1;rintro⟨rfl,rfl⟩;omega),if_pos h1]
              ·rw[if_neg h1,if_neg h1]
            | some b=>exact absurd ⟨by rw[hux];simp,by rw[huy];simp⟩ Ag
        | some b =>
          obtain⟨d',z'⟩:=b
          simp only[cy d z D5,cx d' z' SG];have D6:d≠d':=by
           rintro rfl
           exact hd _ (nx _ _ D5) (ny _ _ SG)
          cases hux:ex.dK with
          | none =>
            cases huy:ey.dK with
            | none =>
              simp only
              by_cases h1:s=d∧st.aP d≤g∧g-st.aP d<z.length
              ·rw[if_pos h1,if_pos h1,if_neg (fun h=>D6 (h1.1.symm.trans h.1))]
              ·rw[if_neg h1,if_neg h1]
            | some b =>
              obtain⟨s0,g0,e0⟩:=b
              have bA:=HV Lk ZD huy
              simp only
              by_cases h1:s=d∧st.aP d≤g∧g-st.aP d<z.length
              ·rw[if_pos h1,if_pos h1,if_neg (fun h=>D6 (h1.1.symm.trans h.1)),if_neg (by obtain⟨rfl,ha,hb⟩:=h1;rintro⟨rfl,rfl⟩;omega)]
              ·rw[if_neg h1,if_neg h1]
          | some a =>
            obtain⟨s0,g0,e0⟩:=a
            have bA:=HV Lk hex hux
            cases huy:ey.dK with
            | none =>
              simp only
              by_cases h1:s=d∧st.aP d≤g∧g-st.aP d<z.length
              ·rw[if_pos h1,if_pos h1,if_neg (fun h=>D6 (h1.1.symm.trans h.1))]
              ·rw[if_neg h1,if_neg h1];by_cases h2:s=d'∧st.aP d'≤g∧g-st.aP d'<z'.length
               ·rw[if_pos h2,if_neg (by obtain⟨rfl,ha,hb⟩:=h2;rintro⟨rfl,rfl⟩;omega),if_pos h2]
               ·rw[if_neg h2,if_neg h2]
            | some b=>exact absurd ⟨by rw[hux];simp,by rw[huy];simp⟩ Ag
     ·funext s
      cases D5:ex.new with
      | none=>cases SG:ey.new<;>simp only[lM,D5,SG]
      | some a =>
        obtain⟨d,z⟩:=a
        cases SG:ey.new with
        | none=>simp only[lM,D5,SG]
        | some b =>
          obtain⟨d',z'⟩:=b
          have D6:d≠d':=by
           rintro rfl
           exact hd _ (nx _ _ D5) (ny _ _ SG)
          simp only[lM,D5,SG];rw[if_neg D6,if_neg (Ne.symm D6)];by_cases h1:s=d
          ·subst h1;rw[if_neg D6,if_pos rfl,if_neg D6]
          ·rw[if_neg h1,if_neg h1]
def Ht (st st':St) (x:AV):Prop:=∀s g,keyOf x=some (some (s,g))→st'.heap s g=st.heap s g
theorem VA {x:AV} (h:Ht st st' x):qI st' x=qI st x:=by
 cases x<;>simp only[qI]
 rw[h _ _ rfl]
theorem wD {x:AV} (h:Ht st st' x):aR st' x=aR st x:=by
 cases x
 case own=>simp only[aR,h _ _ rfl]
 case vw=>simp only[aR,h _ _ rfl]
 case v y =>
  cases y
  case slice p n c=>cases p<;>cases n<;>cases c<;>rfl
  all_goals rfl
 all_goals rfl
theorem Yh {T:Nat} {x i:AV} (h:Ht st st' x):bF P st' T x i=bF P st T x i:=by
 unfold bF;cases x<;>try rfl
 simp only[h _ _ rfl]
theorem VB {T:Nat} {x y:AV} (h:Ht st st' x):pT P st' T x y=pT P st T x y:=by
 unfold pT;cases x<;>try rfl
 simp only[h _ _ rfl]
theorem VC {T:Nat} {x:AV} {lo hi:Option Operand} (hx:Ht st st' x) (hl:∀p,lo=some p→st'.ev p=st.ev p) (Cl:∀p,hi=some p→st'.ev p=st.ev p):cW P st' T x lo hi=cW P st T x lo hi :=
 Ye (fun s g h=>by
  rcases h with ⟨o,rfl⟩|rfl|⟨o,n,rfl⟩<;>exact hx _ _ rfl) hl Cl
theorem OI {T:Nat} {s x:AV} (hs:Ht st st' s) (hx:Ht st st' x):dE P st' T s x=dE P st T s x:=by
 unfold dE;rw[wD hx];cases s
 case own=>simp only[hs _ _ rfl]
 case v y =>
  cases y
  case slice p n c=>cases p<;>cases n<;>cases c<;>rfl
  all_goals rfl
 all_goals rfl
theorem OJ {T:Nat} {s x:AV} (hs:Ht st st' s) (hx:Ht st st' x):kY P st' T s x=kY P st T s x:=by
 unfold kY;rw[wD hx];cases dM P T with
 | none=>rfl
 | some t=>cases aR st x with
   | none=>rfl
   | some mn =>
     cases s<;>try rfl
     case vw s g o n =>
      cases o with
      | zero=>simp only[hs _ _ rfl]
      | succ o=>rfl
theorem VD {r:AV} {dst:Option Nat} (hc:∀d,dst=some d→st'.aP d=st.aP d):jA r st' dst=jA r st dst:=by
 unfold jA;cases dst with
 | none=>rfl
 | some d=>simp only[hc d rfl]
theorem VE {g:Nat} {x:AV} {args:List AV} {dst:Option Nat} (hx:Ht st st' x) (hc:∀d,dst=some d→st'.aP d=st.aP d):lN call g (x :: args) st' dst=lN call g (x :: args) st dst:=by
 unfold lN;split
 ·rename_i s k rest heq;simp only[List.cons.injEq] at heq;obtain⟨rfl,rfl⟩:=heq
  rw[hx _ _ rfl];cases dst with
  | none=>rfl
  | some d=>simp only[hc d rfl]
 ·split
  ·rename_i hf;unfold aL;rw[if_pos hf,if_pos hf];have h2:∀r,jA r st' dst=jA r st dst:=fun r=>VD hc
   simp only[h2]
  ·rfl
theorem BR {o:Oper} {aS:List Nat} (h:gY o=some aS):o.guard=none:=by
 unfold gY at h;split at h
 ·cases h
 ·assumption
theorem HW {o:Oper} {aS:List Nat} (ha:gY o=some aS):rS P call ops o st=dI P call o st:=by
 unfold rS;rw[BR ha];rfl
inductive Tf:Op→List Nat→Prop
 | load (T a:Nat):Tf (.load T (.tmp a)) [a]
 | store (T a:Nat) (x:Operand):Tf (.store T (.tmp a) x) [a]
 | indexAddr (T a:Nat) (x:Operand):Tf (.indexAddr T (.tmp a) x) [a]
 | slice (T a:Nat) (lo hi mx:Option Operand):Tf (.slice T (.tmp a) lo hi mx) [a]
 | len (a:Nat) (args:Array Operand) (tH:Array Nat) (h:args.toList=[.tmp a]):Tf (.call ⟨.builtin .len,args,tH⟩) [a]
 | append (a b:Nat) (args:Array Operand) (tH:Array Nat) (h:args.toList=[.tmp a,.tmp b]):Tf (.call ⟨.builtin .append,args,tH⟩) [a,b]
 | mv (g a:Nat) (r:List Operand) (args:Array Operand) (tH:Array Nat) (h:args.toList=.tmp a :: r) (hg:Ext.mv g=true):Tf (.call ⟨.value (.func g),args,tH⟩) [a]
theorem Oo {o:Oper} {aS:List Nat} (h:gY o=some aS):Tf o.op aS:=by
 unfold gY at h;split at h
 ·cases h
 ·split at h
  ·rename_i T a ho;simp only[Option.some.injEq] at h;subst h;rw[ho];exact .load T a
  ·rename_i T a x ho;simp only[Option.some.injEq] at h;subst h;rw[ho];exact .store T a x
  ·rename_i T a x ho;simp only[Option.some.injEq] at h;subst h;rw[ho];exact .indexAddr T a x
  ·rename_i T a lo hi mx ho;simp only[Option.some.injEq] at h;subst h;rw[ho];exact .slice T a lo hi mx
  ·rename_i args tH ho;split at h
   ·rename_i a hl;simp only[Option.some.injEq] at h;subst h;rw[ho];exact .len a args tH hl
   ·cases h
  ·rename_i args tH ho;split at h
   ·rename_i a b hl;simp only[Option.some.injEq] at h;subst h;rw[ho];exact .append a b args tH hl
   ·cases h
  ·rename_i g args tH ho;split at h
   ·rename_i a r hl;split at h
    ·rename_i hg;simp only[Option.some.injEq] at h;subst h;rw[ho];exact .mv g a r args tH hl hg
    ·cases h
   ·cases h
  ·cases h
theorem D7 {T s g:Nat} {p x:AV} {e':nM} (hs:pT P st T p x=some (s,g,e')):∃o,p=.ptr s g o:=by
 unfold pT at hs;split at hs
 ·rename_i s1 g1 o1;split at hs
  ·split at hs
   ·split at hs
    ·split at hs
     ·simp only[Option.some.injEq,Prod.mk.injEq] at hs;obtain⟨rfl,rfl,_⟩:=hs;exact⟨_,rfl⟩
     ·cases hs
    ·split at hs
     ·simp only[Option.some.injEq,Prod.mk.injEq] at hs;obtain⟨rfl,rfl,_⟩:=hs;exact⟨_,rfl⟩
     ·cases hs
    ·cases hs
   ·cases hs
  ·cases hs
 ·cases hs
theorem VF {T s g:Nat} {p x:AV} {r:nM} (nU:dE P st T p x=some (some (s,g),r)):p=.own s g:=by
 unfold dE at nU;split at nU
 ·split at nU
  ·split at nU
   ·split at nU
    ·split at nU<;>simp at nU
    ·rename_i s3 g3;split at nU
     ·split at nU
      ·simp only[Option.some.injEq,Prod.mk.injEq] at nU;obtain⟨⟨rfl,rfl⟩,_⟩:=nU
       rfl
      ·cases nU
     ·cases nU
    ·split at nU<;>simp at nU
    ·cases nU
   ·cases nU
  ·cases nU
 ·cases nU
theorem Rk {o:Oper} {aS:List Nat} {e:rC} (ha:gY o=some aS) (h:rS P call ops o st=some e) :
 ∀s g z,e.dK=some (s,g,z)→∃a∈aS,keyOf (st.env a)=some (some (s,g)):=by
 rw[HW ha] at h;have hk:=Oo ha
 clear ha
 obtain⟨dst,op,type,pos,after,guard⟩:=o
 have val:∀(v:Option AV),(v.map fun x=>({ dst:=dst,val:=x }:rC))=some e→e.dK=none:=fun v hv=>by
  cases v with
  | none=>cases hv
  | some v=>simp only[Option.map_some,Option.some.injEq] at hv;subst hv;rfl
 intro s g z hu;cases hk
 case load T a=>simp only[dI] at h;rw[val _ h] at hu;cases hu
 case indexAddr T a x=>simp only[dI] at h;rw[val _ h] at hu;cases hu
 case slice T a lo hi mx=>simp only[dI] at h;rw[val _ h] at hu;cases hu
 case len a args tH hl =>
  simp only[dI,iJ,hl] at h;split at h
  ·split at h
   ·simp only[Option.some.injEq] at h;subst h;cases hu
   ·cases h
  ·cases h
 case store T a x =>
  simp only[dI] at h;cases hs:pT P st T (st.ev (.tmp a)) (st.ev x) with
  | none=>simp[hs] at h
  | some u =>
    obtain⟨s',g',e'⟩:=u
    simp only[hs,Option.map_some,Option.some.injEq] at h;subst h;simp only[Option.some.injEq,Prod.mk.injEq] at hu;obtain⟨rfl,rfl,_⟩:=hu
    obtain⟨o1,ho1⟩:=D7 hs
    exact⟨a,by simp,by rw[show st.env a=st.ev (.tmp a) from rfl,ho1];rfl⟩
 case append a b args tH hl =>
  simp only[dI,iJ,hl] at h;cases dst with
  | none=>simp[cN] at h
  | some d =>
    simp only[cN] at h;split at h
    ·rename_i s0 x0 T T' heq _
     simp only[List.cons.injEq,and_true] at heq;obtain⟨rfl,rfl⟩:=heq
     split at h
     ·split at h
      ·cases nU:kY P st T (st.ev (.tmp a)) (st.ev (.tmp b)) with
       | none=>simp[nU] at h
       | some u =>
       simp only[nU,Option.map_some,Option.some.injEq] at h;subst h;simp only[Option.some.injEq,Prod.mk.injEq] at hu;obtain⟨rfl,rfl,rfl⟩:=hu
       obtain⟨n0,zQ⟩:=Yg nU
       exact⟨a,by simp,by rw[show st.env a=st.ev (.tmp a) from rfl,zQ];rfl⟩
      split at h
      ·simp only[Option.some.injEq] at h;subst h;cases hu
      cases nU:dE P st T (st.ev (.tmp a)) (st.ev (.tmp b)) with
      | none=>simp[nU] at h
      | some ur =>
        obtain⟨u,r⟩:=ur
        simp only[nU,Option.some.injEq] at h;subst h;cases u with
        | none=>cases hu
        | some p =>
          simp only[Option.map_some,Option.some.injEq,Prod.mk.injEq] at hu;obtain⟨rfl,rfl,_⟩:=hu
          exact⟨a,by simp,by rw[show st.env a=st.ev (.tmp a) from rfl,VF nU];rfl⟩
     ·cases h
    ·cases h
 case mv g' a r args tH hl hg =>
  simp only[dI,iJ,oA] at h;rw[if_pos hg] at h;obtain⟨_,_,h3⟩:=On h
  have:=h3 s g z hu
  rw[hl] at this;simp only[List.map_cons,List.head?_cons,Option.some.injEq,St.ev] at this;exact⟨a,by simp,by rw[this];rfl⟩
theorem mem_congr {o:Oper} {aS:List Nat} (ha:gY o=some aS) (AS:∀p∈o.op.operands,st'.ev p=st.ev p) (hh:∀a∈aS,Ht st st' (st.env a)) (hc:∀d,o.dst=some d→st'.aP d=st.aP d) :
 rS P call ops o st'=rS P call ops o st:=by
 rw[HW ha,HW ha];have hk:=Oo ha
 clear ha
 obtain⟨dst,op,type,pos,after,guard⟩:=o
 simp only at hk AS hc
 cases hk
 case load T a =>
  have h1:st'.env a=st.env a:=AS (.tmp a) (by simp[Op.operands])
  simp only[dI,iV,St.ev,h1,VA (hh a (by simp))]
 case store T a x =>
  have h1:st'.env a=st.env a:=AS (.tmp a) (by simp[Op.operands])
  have h2:=AS x (by simp[Op.operands])
  have h3:st'.ev (.tmp a)=st.ev (.tmp a):=h1
  simp only[dI,h2,h3];rw[show st.ev (.tmp a)=st.env a from rfl,VB (hh a (by simp))]
 case indexAddr T a x =>
  have h1:st'.env a=st.env a:=AS (.tmp a) (by simp[Op.operands])
  have h2:=AS x (by simp[Op.operands])
  have h3:st'.ev (.tmp a)=st.ev (.tmp a):=h1
  simp only[dI,iV,h2,h3];rw[show st.ev (.tmp a)=st.env a from rfl,Yh (hh a (by simp))]
 case slice T a lo hi mx =>
  have h1:st'.env a=st.env a:=AS (.tmp a) (by simp[Op.operands])
  have h3:st'.ev (.tmp a)=st.ev (.tmp a):=h1
  have hl:∀p,lo=some p→st'.ev p=st.ev p:=fun p hp=>AS p (by subst hp;simp[Op.operands])
  have Cl:∀p,hi=some p→st'.ev p=st.ev p:=fun p hp=>AS p (by subst hp;simp[Op.operands])
  have hm:∀p,mx=some p→st'.ev p=st.ev p:=fun p hp=>AS p (by subst hp;simp[Op.operands])
  have hS:=VC (P:=P) (T:=T) (hh a (by simp)) hl Cl
  cases mx with
  | none =>
    simp only[dI,iV,h3];rw[show st.ev (.tmp a)=st.env a from rfl,hS]
  | some m =>
    cases hi with
    | none=>rfl
    | some h =>
      simp only[dI,iV,h3];rw[Td (fun s g hx=>hh a (by simp) s g (by rw[show st.env a=st.ev (.tmp a) from rfl,hx];rfl)) hl (Cl h rfl) (hm m rfl)]
 case len a args tH hl =>
  have h1:st'.env a=st.env a:=AS (.tmp a) (by simp[Op.operands,Call.operands,← Array.mem_toList_iff,hl])
  have h3:st'.ev (.tmp a)=st.ev (.tmp a):=h1
  have hv:aR st' (st'.ev (.tmp a))=aR st (st.ev (.tmp a)):=by rw[h3];exact wD (hh a (by simp))
  simp only[dI,iJ,hl];cases tH.toList with
  | nil=>rfl
  | cons T r=>cases r with
    | nil=>simp only[hv]
    | cons _ _=>rfl
 case append a b args tH hl =>
  have h1:st'.ev (.tmp a)=st.ev (.tmp a):=AS (.tmp a) (by simp[Op.operands,Call.operands,← Array.mem_toList_iff,hl])
  have h2:st'.ev (.tmp b)=st.ev (.tmp b):=AS (.tmp b) (by simp[Op.operands,Call.operands,← Array.mem_toList_iff,hl])
  have hV:∀T,kY P st' T (st.ev (.tmp a)) (st.ev (.tmp b))=kY P st T (st.ev (.tmp a)) (st.ev (.tmp b)):=fun T=>OJ (hh a (by simp)) (hh b (by simp))
  have hA:∀T,dE P st' T (st.ev (.tmp a)) (st.ev (.tmp b))=dE P st T (st.ev (.tmp a)) (st.ev (.tmp b)):=fun T=>OI (hh a (by simp)) (hh b (by simp))
  simp only[dI,iJ,hl];cases dst with
  | none=>rfl
  | some d =>
    simp only[cN,hc d rfl];cases tH.toList with
    | nil=>rfl
    | cons T r=>cases r with
      | nil=>rfl
      | cons T' r'=>cases r' with
        | nil =>
          have hn:Gp P st' T (st'.ev (.tmp a)) (st'.ev (.tmp b))=Gp P st T (st.ev (.tmp a)) (st.ev (.tmp b)):=by
           have h3:aR st' (st.ev (.tmp b))=aR st (st.ev (.tmp b)):=wD (hh b (by simp))
           simp only[Gp,h1,h2,h3]
          simp only[];rw[hn,h1,h2,hA,hV]
        | cons _ _=>rfl
 case mv g' a r args tH hl hg =>
  have he:∀p∈args.toList,st'.ev p=st.ev p:=fun p hp=>AS p (by simp[Op.operands,Call.operands,← Array.mem_toList_iff,hp])
  have h1:args.toList.map st'.ev=args.toList.map st.ev:=List.map_congr_left he
  simp only[dI,iJ,oA];rw[if_pos hg,if_pos hg,h1,hl];simp only[List.map_cons];exact VE (hh a (by simp)) hc
theorem X4 {x y:AV} (h:fW x y∨fW y x) {k k':Nat × Nat} (hx:keyOf x=some (some k)) (hy:keyOf y=some (some k')):k≠k':=by
 unfold fW at h;rw[hx,hy] at h;rcases h with h|h
 ·exact h
 ·exact fun e=>h e.symm
theorem X5 {aP:Nat→Nat} {x:AV} {s g:Nat} (h:mP aP x) (hk:keyOf x=some (some (s,g))):g<aP s:=by
 cases x<;>simp only[keyOf,Option.some.injEq,Prod.mk.injEq,reduceCtorEq] at hk
 ·obtain⟨rfl,rfl⟩:=hk;exact h.ptr
 ·obtain⟨rfl,rfl⟩:=hk;exact h.own
 ·obtain⟨rfl,rfl⟩:=hk;exact h.vw
theorem EX {x y:Oper} {aS bs:List Nat} {ex:rC} (Lk:∀t,mP st.aP (st.env t)) (hax:gY x=some aS) (hay:gY y=some bs) (ZB:∀d,x.dst=some d→d ∉ y.looksAt ops) (lH:∀d,x.dst=some d→y.dst≠some d)
 (hf:∀a∈aS,∀b∈bs,fW (st.env a) (st.env b)∨fW (st.env b) (st.env a)) (hx:rS P call ops x st=some ex):rS P call ops y (ex.apply st)=rS P call ops y st:=by
 obtain⟨sd,sn,_⟩:=oW hx
 have su:=Rk hax hx
 refine mem_congr hay (fun p hp=>?_) (fun b hb s g hk=>?_) fun d hd=>?_
 ·cases p with
  | tmp t =>
    show (ex.apply st).env t=st.env t
    rw[oM,if_neg];intro h;rw[sd] at h;exact ZB t h (by unfold Oper.looksAt;exact List.mem_append_left _ (List.mem_filterMap.2 ⟨.tmp t,by simpa using hp,rfl⟩))
  | _=>rfl
 ·have bA:=X5 (Lk b) hk
  have hupd:(match ex.dK with|some (s0,g0,y)=>if s=s0∧g=g0 then y else st.heap s g|none=>st.heap s g)=st.heap s g:=by
   cases hu:ex.dK with
   | none=>rfl
   | some u =>
     obtain⟨s0,g0,z⟩:=u
     obtain⟨a,ha,hka⟩:=su s0 g0 z hu
     simp only
     rw[if_neg];rintro⟨rfl,rfl⟩
     exact X4 (hf a ha b hb) hka hk rfl
  rw[sW];split
  ·rename_i d es hn;rw[if_neg (by rintro⟨rfl,h,_⟩;omega)]
   exact hupd
  ·exact hupd
 ·rw[lM];split
  ·rename_i d' z hn
   rw[if_neg];rintro rfl
   exact lH _ (sn _ _ hn) hd
  ·rfl
theorem X6 {α:Type} {A B C D:Prop} [Decidable A] [Decidable B] [Decidable C] [Decidable D] {na nb uc ud h:α} (h1:A→¬B) (h2:A→¬D) (h3:C→¬B) (h4:C→¬D) :
 (if B then nb else if D then ud else if A then na else if C then uc else h)=(if A then na else if C then uc else if B then nb else if D then ud else h):=by
 by_cases a:A
 ·rw[if_neg (h1 a),if_neg (h2 a),if_pos a,if_pos a]
 ·rw[if_neg a,if_neg a];by_cases c:C
  ·rw[if_neg (h3 c),if_neg (h4 c),if_pos c,if_pos c]
  ·rw[if_neg c,if_neg c]
def Rl (e:rC) (aP:Nat→Nat) (s g:Nat):Prop:=∃d es,e.new=some (d,es)∧s=d∧aP d≤g∧g-aP d<es.length
def VG (e:rC) (s g:Nat):Prop:=∃z,e.dK=some (s,g,z)
def Hu (e:rC) (aP:Nat→Nat) (g:Nat):Option nM:=match e.new with|some (d,es)=>es[g-aP d]? | none=>none
def VH (e:rC):Option nM:=match e.dK with|some (_,_,z)=>z|none=>none
theorem Bg (e:rC) (st:St) (s g:Nat):(e.apply st).heap s g=if Rl e st.aP s g then Hu e st.aP g else if VG e s g then VH e else st.heap s g:=by
 have hu:(match e.dK with|some (s0,g0,y)=>if s=s0∧g=g0 then y else st.heap s g|none=>st.heap s g)=if VG e s g then VH e else st.heap s g:=by
  unfold VG VH;cases hu:e.dK with
  | none=>simp
  | some u =>
    obtain⟨s0,g0,z⟩:=u
    simp only
    by_cases h:s=s0∧g=g0
    ·obtain⟨rfl,rfl⟩:=h
     rw[if_pos ⟨rfl,rfl⟩,if_pos ⟨z,rfl⟩]
    ·rw[if_neg h,if_neg];rintro⟨z',h'⟩
     simp only[Option.some.injEq,Prod.mk.injEq] at h'
     exact h ⟨h'.1.symm,h'.2.1.symm⟩
 rw[sW];unfold Rl Hu;cases hn:e.new with
 | none=>simp only;rw[if_neg (by rintro⟨d,es,h,_⟩;cases h)];exact hu
 | some p =>
   obtain⟨d,es⟩:=p
   simp only
   by_cases h:s=d∧st.aP d≤g∧g-st.aP d<es.length
   ·rw[if_pos h,if_pos ⟨d,es,rfl,h⟩]
   ·rw[if_neg h,if_neg]
    ·exact hu
    ·rintro⟨d',es',h',h2⟩
     simp only[Option.some.injEq,Prod.mk.injEq] at h'
     obtain⟨rfl,rfl⟩:=h'
     exact h h2
theorem X7 {x y:Oper} {aS bs:List Nat} (Lk:∀t,mP st.aP (st.env t)) (hax:gY x=some aS) (hay:gY y=some bs) (nU:Oper.apart ops x y=true) (hf:Kt st aS bs) {s1 s2:St} (hx:cF P call ops x st=some s1) (hy:cF P call ops y s1=some s2) :
 ∃s3,cF P call ops y st=some s3∧cF P call ops x s3=some s2:=by
 obtain⟨l1,l2,l3⟩:=Oper.apart_spec nU
 have l2':∀d,y.dst=some d→x.dst≠some d:=fun d hd hx=>l2 d hx hd
 rw[Fa] at hx hy;cases hex:rS P call ops x st with
 | none=>simp[hex] at hx
 | some ex =>
   simp only[hex,Option.map_some,Option.some.injEq] at hx;subst hx;rw[EX Lk hax hay l1 l2 (fun a ha b hb=>.inl (hf a ha b hb)) hex] at hy
   cases ZD:rS P call ops y st with
   | none=>simp[ZD] at hy
   | some ey =>
     simp only[ZD,Option.map_some,Option.some.injEq] at hy;subst hy;refine⟨ey.apply st,by rw[Fa,ZD];rfl, ?_⟩
     rw[Fa,EX Lk hay hax l3 l2' (fun b hb a ha=>.inr (hf a ha b hb)) ZD,hex]
     simp only[Option.map_some,Option.some.injEq];obtain⟨dx,nx,_⟩:=oW hex
     obtain⟨dy,ny,_⟩:=oW ZD
     have ux:=Rk hax hex
     have uy:=Rk hay ZD
     have cx:∀d z,ey.new=some (d,z)→(ex.apply st).aP d=st.aP d:=fun d z hn=>by
      rw[lM];split
      ·rename_i d' z' Iq
       rw[if_neg];rintro rfl
       exact l2 _ (nx _ _ Iq) (ny _ _ hn)
      ·rfl
     have cy:∀d z,ex.new=some (d,z)→(ey.apply st).aP d=st.aP d:=fun d z hn=>by
      rw[lM];split
      ·rename_i d' z' Iq
       rw[if_neg];rintro rfl
       exact l2 _ (nx _ _ hn) (ny _ _ Iq)
      ·rfl
     apply X0
     ·funext t
      rw[oM,oM,oM,oM,dx,dy];by_cases h1:x.dst=some t
      ·rw[if_pos h1,if_pos h1,if_neg (l2 t h1)]
      ·rw[if_neg h1,if_neg h1]
     ·funext s g
      have nyE:Rl ey (ex.apply st).aP s g↔Rl ey st.aP s g:=by
       constructor
       ·rintro⟨d,es,h,h2⟩;rw[cx d es h] at h2;exact⟨d,es,h,h2⟩
       ·rintro⟨d,es,h,h2⟩;rw[← cx d es h] at h2;exact⟨d,es,h,h2⟩
      have nxE:Rl ex (ey.apply st).aP s g↔Rl ex st.aP s g:=by
       constructor
       ·rintro⟨d,es,h,h2⟩;rw[cy d es h] at h2;exact⟨d,es,h,h2⟩
       ·rintro⟨d,es,h,h2⟩;rw[← cy d es h] at h2;exact⟨d,es,h,h2⟩
      have vyE:Hu ey (ex.apply st).aP g=Hu ey st.aP g:=by
       unfold Hu;cases hn:ey.new with
       | none=>rfl
       | some p=>simp only[cx p.1 p.2 hn]
      have vxE:Hu ex (ey.apply st).aP g=Hu ex st.aP g:=by
       unfold Hu;cases hn:ex.new with
       | none=>rfl
       | some p=>simp only[cy p.1 p.2 hn]
      rw[Bg,Bg,Bg,Bg];simp only[nyE,nxE,vyE,vxE];symm
      have idk:∀a s g,keyOf (st.env a)=some (some (s,g))→g<st.aP s:=fun a s g h=>X5 (Lk a) h
      refine X6 ?_ ?_ ?_ ?_
      ·rintro⟨d,es,h,rfl,_⟩ ⟨d',es',h',rfl,_⟩
       exact l2 _ (nx _ _ h) (ny _ _ h')
      ·rintro⟨d,es,h,rfl,h1,_⟩ ⟨z,h'⟩
       obtain⟨b,_,hb⟩:=uy _ _ _ h'
       have:=idk b _ _ hb
       omega
      ·rintro⟨z,h⟩ ⟨d,es,h',rfl,h1,_⟩
       obtain⟨a,_,ha⟩:=ux _ _ _ h
       have:=idk a _ _ ha
       omega
      ·rintro⟨z,h⟩ ⟨z',h'⟩
       obtain⟨a,ha,hka⟩:=ux _ _ _ h
       obtain⟨b,hb,hkb⟩:=uy _ _ _ h'
       exact X4 (.inl (hf a ha b hb)) hka hkb rfl
     ·funext s
      rw[lM,lM];cases D5:ex.new with
      | none=>cases SG:ey.new<;>simp only[lM,D5,SG]
      | some a =>
        obtain⟨d,z⟩:=a
        cases SG:ey.new with
        | none=>simp only[lM,D5,SG]
        | some b =>
          obtain⟨d',z'⟩:=b
          have D6:d≠d':=by
           rintro rfl
           exact l2 _ (nx _ _ D5) (ny _ _ SG)
          simp only[lM,D5,SG];rw[if_neg D6,if_neg (Ne.symm D6)];by_cases h1:s=d
          ·subst h1;rw[if_neg D6,if_pos rfl,if_neg D6]
          ·rw[if_neg h1,if_neg h1]
end
end Go.Ab
end
