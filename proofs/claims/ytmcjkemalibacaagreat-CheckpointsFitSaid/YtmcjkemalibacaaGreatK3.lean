/-
  Part 3 of the proof: an evaluator of programs, its soundness, and what functions of this program compute.
-/
import Derived.Test.YtmcjkemalibacaaGreatK2
import Derived.Deep.Upon
set_option linter.all false
set_option maxRecDepth 20000
set_option maxHeartbeats 40000000
section
namespace Go.Ab
open Classical
section
variable {P:Program} {h0:Nat→Obj→Prop} {w0:World} {F:Fx} {nt:Nat} {ρ:Nat→Nat→Value} {st:St} {a:Act} {w:World} {K:Act→World→Prop} {Q:Exit→Act→World→Prop}
theorem Fl {base T ty e:Nat} {ei:TypeInfo} {ez:Value} (hT:P.underlying T=some (.slice e)) (Cg:P.info? e=some ei) (CD:ei.zero=some ez) (BX:ez.cells.size=ei.size) (yE:0<ei.size)
 (xE:base≤w.heap.size) {v:Value} {n:Nat} {xs:List Value} (Ad:oH w base e ei.size v n xs)
 {p:Option Addr} {m c:Nat} {news:List Value} (hl:news.length=m * ei.size) (aAm:news≠[]→∃ad,p=some ad∧∀(j:Nat) (u:Value),news[j]? = some u→w.cell? (ad.add j)=some u)
 (h1:∀u∈news,u.oneCell'=true) (h63:n+m≤maxLen) (hb:(n+m) * ei.bytes≤140737488355328) :
 ∃v' w',(Builtin.append_ #[T,T] ty #[v,.slice p m c]).run P w=.ok v' w'∧oH w' base e ei.size v' (n+m) (xs++news)∧w.grownBy w' (dK v)∧(∀b,dK v'=some b→dK v=some b∨w.heap.size≤b):=by
 by_cases hm:m=0
 ·subst hm;have hn:news=[]:=List.eq_nil_of_length_eq_zero (by simpa using hl)
  subst hn;refine⟨v,w, ?_,by simpa using Ad,⟨rfl,rfl,rfl,Nat.le_refl _,fun _ _ _=>rfl⟩,fun b hb=>.inl hb⟩
  have hfc:∀(x:Value),(∃p,x=.slice p 0 c)→(Builtin.firstCells ei.size 0 x).run P w=.ok #[] w:=by
   rintro x ⟨p,rfl⟩
   cases p<;>simp[Builtin.firstCells,loadCells,loadCellsFrom]
  rcases Ad.2 with ⟨q,rfl,rfl⟩|⟨g,cap,cur,rfl,_,_,Uz,_⟩
  ·cases q<;>simp[Builtin.append_,bD hT,run_sizeOf w Cg,Builtin.lenOf,hfc _ ⟨p,rfl⟩,storeCells]
  ·simp[Builtin.append_,bD hT,run_sizeOf w Cg,Builtin.lenOf,hfc _ ⟨p,rfl⟩,Uz,storeCells]
 ·have gP:news≠[]:=by
   intro h;subst h;have:0<m * ei.size:=Nat.mul_pos (by omega) yE
   simp at hl
   omega
  obtain⟨ad,rfl,Zk⟩:=aAm gP
  have hlen:(xs++news).length=(n+m) * ei.size:=by rw[List.length_append,Ad.1,hl,Nat.add_mul]
  have grow:∀(ga:Addr) (cap:Nat),cap<n+m→(∀(j:Nat) (u:Value),xs[j]? = some u→w.cell? (ga.add j)=some u)→∃v' w',(Builtin.append_ #[T,T] ty #[.slice (some ga) n cap,.slice (some ad) m c]).run P w=.ok v' w' ∧
   oH w' base e ei.size v' (n+m) (xs++news)∧w.grownBy w' none∧∀b,dK v'=some b→w.heap.size≤b:=by
   intro ga cap z6 holds;have hr:=run_append_grow (P:=P) w T ty e ei ez hT Cg CD ga n cap xs Ad.1 holds ad m c news hl Zk (by omega) (by simp only[maxLen] at h63;omega) (growslice_fits (by omega) hb)
   have hge:=grownCap_ge w (n+m) cap e
   have aHJ:=grownCap_le_maxLen w (n+m) cap e h63
   refine⟨_,_,hr,⟨hlen,.inr ⟨w.heap.size,_,_,rfl,xE,heap_alloc_new w.drew _,hge,aHJ, ?_, ?_,by omega⟩⟩,⟨rfl,rfl,rfl,by simp,fun k hk _=>heap_alloc_old w.drew _ hk⟩,fun b hb=>?_⟩
   ·simp only[Array.size_append,List.size_toArray,size_zeroCells,BX,Ad.1,hl,← Nat.add_mul];congr 1
    omega
   ·simp only[Array.toList_append,List.append_assoc];rw[← List.append_assoc,← hlen];exact List.take_left
   ·rw[kJ (by omega)] at hb
    simp at hb
    omega
  rcases Ad.2 with ⟨q,rfl,rfl⟩|⟨g,cap,cur,rfl,hbg,hg,Uz,VT,IQ,htake,qT⟩
  ·have hx:xs=[]:=List.eq_nil_of_length_eq_zero (by simpa using Ad.1)
   cases q with
   | none =>
     subst hx;obtain⟨v',w',hr,ho,hgr,_⟩:=run_append_own (P:=P) w w.heap.size T ty e ei ez ei.size ei.bytes hT Cg CD rfl rfl BX yE (.slice none 0 0) 0 [] (World.ownsRow_nil w _ e ei.size)
      ad m c news hl Zk h1 (by simpa using h63) (by simpa using hb) (Nat.le_refl _)
     exact⟨v',w',hr,zF (Hb ho) xE,hgr,fun b hb=>.inr ((Cz (Hb ho) b hb).1)⟩
   | some ga =>
     obtain⟨v',w',hr,ho,hgr,oF⟩:=grow ga 0 (by omega) (by rw[hx];simp)
     exact⟨v',w',hr,ho,by rw[pX];exact hgr,fun b hb=>.inr (oF b hb)⟩
  ·by_cases z6:n+m≤cap
   ·have aDx:n * ei.size+news.length≤cur.size:=by rw[hl,IQ,← Nat.add_mul];exact Nat.mul_le_mul_right _ z6
    have hr:=run_append_room (P:=P) w T ty e ei hT Cg g n cap cur hg ad m c news hl Zk h1 z6 aDx
    refine⟨_,_,hr,⟨hlen,.inr ⟨g,cap,_,rfl,hbg,setRow_heap w g cur _ e _ hg,z6,VT, ?_, ?_,qT⟩⟩,⟨rfl,rfl,rfl,by simp,fun k _ hk=>setRow_other w g k _ (fun e=>hk (by rw[kJ qT,e]))⟩,fun b hb=>.inl (by rw[kJ qT] at hb ⊢;exact hb)⟩
    ·simp only[List.size_toArray,List.length_append,List.length_take,List.length_drop,Array.length_toList];omega
    ·rw[htake,← hlen];exact List.take_left
   ·have holds:∀(j:Nat) (u:Value),xs[j]? = some u→w.cell? ((⟨g,0,none⟩:Addr).add j)=some u:=fun j u hu=>by
     rw[lW,Nat.zero_add,cell_of_row w g j cur e (0,0) hg];rw[← htake,List.getElem?_take] at hu;split at hu
     ·simpa using hu
     ·cases hu
    obtain⟨v',w',hr,ho,hgr,oF⟩:=grow ⟨g,0,none⟩ cap (by omega) holds
    exact⟨v',w',hr,ho,⟨hgr.os,hgr.tape,hgr.output,hgr.size,fun k hk _=>hgr.block k hk (by simp)⟩,fun b hb=>.inr (oF b hb)⟩
theorem lN (dst:Option Nat) (v:AV) (d:Nat) (x:oB):rX.apply { dst:=dst,val:=v,new:=some (d,[x])} st=(st.new d x).put dst v:=by
 simp only[rX.apply,Wy]
theorem Si (dst:Option Nat) (v:AV) (s g d:Nat) (z:Option oB) (x:oB):rX.apply { dst:=dst,val:=v,dS:=some (s,g,z),new:=some (d,[x])} st=((st.jB s g z).new d x).put dst v:=by
 simp only[rX.apply,Wy]
theorem IV (S:kX F h0 w0 nt ρ st a w) {T ty d:Nat} {s x:AV} {u:Option (Nat × Nat)} {r:oB} {sv xv:Value} (hd:d<nt) (h:dJ P st T s x=some (u,r))
 (hs:cZ (ctx h0 w0 ρ st w) s sv) (hx:cZ (ctx h0 w0 ρ st w) x xv) :
 ∃v w' oG,(Builtin.append_ #[T,T] ty #[sv,xv]).run P w=.ok v w' ∧
  kX F h0 w0 nt oG (rX.apply { dst:=some d,val:=.own d (st.aT d),dS:=u.map fun p=>(p.1,p.2,none),new:=some (d,[r])} st) (a.put (some d) v) w':=by
 unfold dJ at h;cases TT:dW P T with
 | none=>simp[TT] at h
 | some t =>
   obtain⟨e,sz,by_⟩:=t
   simp only[TT] at h;obtain⟨ei,ez,hT,Cg,CD,rfl,BX,rfl,yE⟩:=kH TT
   cases hv:aX st x with
   | none=>simp[hv] at h
   | some mn =>
     obtain⟨m,news⟩:=mn
     simp only[hv] at h;split at h
     ·rename_i hlen;obtain⟨p,c,rfl,aAm⟩:=sU S hv hx
      have aAn:∃nv:List Value,gF (ctx h0 w0 ρ st w) news nv∧(nv≠[]→∃ad,p=some ad∧∀(j:Nat) (u:Value),nv[j]? = some u→w.cell? (ad.add j)=some u):=by
       by_cases gP:news=[]
       ·subst gP;exact⟨[],.nil _,fun h=>absurd rfl h⟩
       ·obtain⟨b,off,arr,T',fr,hp,hb,hc⟩:=aAm gP
        refine⟨_,hc,fun _=>⟨_,hp,fun j u hu=>?_⟩⟩
        rw[lW,cell_of_row w b (off+j) arr T' fr hb];rw[List.getElem?_take] at hu;split at hu
        ·rw[List.getElem?_drop] at hu;simpa using hu
        ·cases hu
      obtain⟨nv,Uz,pA⟩:=aAn
      have TN:nv.length=m * ei.size:=by rw[← Uz.len,hlen]
      have Rb:∀u∈nv,u.oneCell'=true:=fun u hu=>by
       obtain⟨j,hj,rfl⟩:=List.getElem_of_mem hu
       exact Uz.one j _ (by simp)
      split at h
      ·split at h
       ·rename_i hc;simp only[Option.some.injEq,Prod.mk.injEq] at h;obtain⟨rfl,rfl⟩:=h
        have:=iO hs
        subst this;obtain⟨v',w',hr,ho,hg,ZS⟩:=Fl (P:=P) (w:=w) (base:=w.heap.size) (ty:=ty) hT Cg CD BX yE (Nat.le_refl _) (Hb (World.ownsRow_nil w _ e ei.size)) (p:=p) (c:=c) TN pA Rb (by simpa using hc.2) (by simpa using hc.1)
        simp only[Nat.zero_add,List.nil_append] at ho;obtain⟨oG,S'⟩:=S.newRow d hd hg e ei.size m news nv v' ho Uz
        exact⟨v',w',oG,hr,by rw[Option.map_none,lN];exact S'⟩
       ·cases h
      ·rename_i s' g'
       cases he:st.heap s' g' with
       | none=>simp[he] at h
       | some e' =>
         cases e' with
         | row e2 sz2 n cs =>
           simp only[he] at h;split at h
           ·rename_i hc;obtain⟨rfl,rfl,hb,h63⟩:=hc
            simp only[Option.some.injEq,Prod.mk.injEq] at h;obtain⟨rfl,rfl⟩:=h
            obtain⟨_,_,xs,ho,IQ⟩:=S.sT s' g' _ he
            cases hs with
            | own _ _ hg1 ho1 =>
              obtain⟨v',w',hr,ho',hg,ZS⟩:=Fl (P:=P) (w:=w) (ty:=ty) hT Cg CD BX yE S.ext.size ho (p:=p) (c:=c) TN pA Rb h63 hb
              obtain⟨S',k,pF⟩:=S.P8 he hg d (.row e2 ei.size (n+m) (cs++news)) v' (tK ho') ZS (fun C k=>⟨xs++nv,ho',(IQ.app Uz).le k⟩)
              have aY:st.aT d<(ctx h0 w0 (uC ρ d (st.aT d) v') ((st.jB s' g' none).new d (.row e2 ei.size (n+m) (cs++news))) w').aT d:=by simp[ctx,St.new,St.jB]
              have lC:(ctx h0 w0 (uC ρ d (st.aT d) v') ((st.jB s' g' none).new d (.row e2 ei.size (n+m) (cs++news))) w').ρ d (st.aT d)=v':=pF
              have:=cZ.own (C:=ctx h0 w0 (uC ρ d (st.aT d) v') ((st.jB s' g' none).new d (.row e2 ei.size (n+m) (cs++news))) w') d (st.aT d) aY (by rw[lC];exact tK ho')
              rw[lC] at this;have hS:=S'.put (some d) (fun t ht=>by cases ht;exact hd) this
              exact⟨v',w',_,hr,by rw[Option.map_some,Si];exact hS⟩
           ·cases h
         | _=>simp[he] at h
      ·rename_i n cs;split at h
       ·rename_i hc;obtain⟨c1,c2,c3,c4⟩:=hc
        simp only[Option.some.injEq,Prod.mk.injEq] at h;obtain⟨rfl,rfl⟩:=h
        have main:∀(q:Option Addr) (ys:List Value),sv=.slice q n n→gF (ctx h0 w0 ρ st w) cs ys→(ys≠[]→∃ad,q=some ad∧∀(j:Nat) (u:Value),ys[j]? = some u→w.cell? (ad.add j)=some u) →
         ∃v' w',(Builtin.append_ #[T,T] ty #[sv,.slice p m c]).run P w=.ok v' w'∧oH w' w.heap.size e ei.size v' (n+m) (ys++nv)∧w.grownBy w' none:=by
         rintro q ys rfl Va hcell'
         have hyl:ys.length=n * ei.size:=by rw[← Va.len,c1]
         by_cases hm:m=0
         ·have hn0:n=0:=by omega
          subst hm;subst hn0;have hy0:ys=[]:=List.eq_nil_of_length_eq_zero (by simpa using hyl)
          have hn0:nv=[]:=List.eq_nil_of_length_eq_zero (by simpa using TN)
          subst hy0;subst hn0;obtain⟨v',w',hr,ho,hg,_⟩:=Fl (P:=P) (w:=w) (base:=w.heap.size) (ty:=ty) (v:=.slice q 0 0) (n:=0) (xs:=[]) hT Cg CD BX yE (Nat.le_refl _) ⟨by simp,.inl ⟨q,rfl,rfl⟩⟩ (p:=p) (c:=c) TN pA (by simp) c4 c3
          rw[pX] at hg;exact⟨v',w',hr,ho,hg⟩
         ·have gP:nv≠[]:=by
           intro h;rw[h] at TN;have:0<m * ei.size:=Nat.mul_pos (by omega) yE
           simp at TN
           omega
          obtain⟨ad,rfl,Zk⟩:=pA gP
          have hlen':(ys++nv).length=(n+m) * ei.size:=by rw[List.length_append,hyl,TN,Nat.add_mul]
          cases q with
          | none =>
            have hy0:ys=[]:=by
             by_cases h:ys=[]
             ·exact h
             ·obtain⟨ad,h1,_⟩:=hcell' h
              cases h1
            subst hy0;have hn0:n=0:=by
             rcases Nat.eq_zero_or_pos n with h|h
             ·exact h
             ·have:=Nat.mul_pos h yE
              simp at hyl
              omega
            subst hn0;obtain⟨v',w',hr,ho,hg,_⟩:=Fl (P:=P) (w:=w) (base:=w.heap.size) (ty:=ty) (v:=.slice none 0 0) (n:=0) (xs:=[]) hT Cg CD BX yE (Nat.le_refl _) ⟨by simp,.inl ⟨none,rfl,rfl⟩⟩ (p:=some ad) (c:=c) TN pA Rb c4 c3
            rw[pX] at hg;exact⟨v',w',hr,ho,hg⟩
          | some ga =>
            have holds:∀(j:Nat) (u:Value),ys[j]? = some u→w.cell? (ga.add j)=some u:=fun j u hu=>by
             have hne':ys≠[]:=by intro h;rw[h] at hu;simp at hu
             obtain⟨ad',h1,h2⟩:=hcell' hne'
             cases h1
             exact h2 j u hu
            have hr:=run_append_grow (P:=P) w T ty e ei ez hT Cg CD ga n n ys hyl holds ad m c nv TN Zk (by omega) (by simp only[maxLen] at c4;omega) (growslice_fits (by omega) c3)
            have hge:=grownCap_ge w (n+m) n e
            have aHJ:=grownCap_le_maxLen w (n+m) n e c4
            refine⟨_,_,hr,⟨hlen',.inr ⟨w.heap.size,_,_,rfl,Nat.le_refl _,heap_alloc_new w.drew _,hge,aHJ, ?_, ?_,by omega⟩⟩,⟨rfl,rfl,rfl,by simp,fun k hk _=>heap_alloc_old w.drew _ hk⟩⟩
            ·simp only[Array.size_append,List.size_toArray,size_zeroCells,BX,hyl,TN,← Nat.add_mul];congr 1
             omega
            ·simp only[Array.toList_append,List.append_assoc];rw[← List.append_assoc,← hlen'];exact List.take_left
        have fin:∀(ys:List Value),gF (ctx h0 w0 ρ st w) cs ys→(∃v' w',(Builtin.append_ #[T,T] ty #[sv,.slice p m c]).run P w=.ok v' w'∧oH w' w.heap.size e ei.size v' (n+m) (ys++nv)∧w.grownBy w' none) →
         ∃v w' oG,(Builtin.append_ #[T,T] ty #[sv,.slice p m c]).run P w=.ok v w' ∧
          kX F h0 w0 nt oG (rX.apply { dst:=some d,val:=.own d (st.aT d),dS:=(none:Option (Nat × Nat)).map fun p=>(p.1,p.2,none),new:=some (d,[.row e ei.size (n+m) (cs++news)])} st) (a.put (some d) v) w':=by
         rintro ys Va ⟨v',w',hr,ho,hg⟩
         obtain⟨oG,S'⟩:=S.newRow d hd hg e ei.size (n+m) (cs++news) (ys++nv) v' ho (Va.app Uz)
         exact⟨v',w',oG,hr,by rw[Option.map_none,lN];exact S'⟩
        cases hs with
        | cl0 n q=>exact fin [] (.nil _) (main q [] rfl (.nil _) (by simp))
        | cl n cs b off arr T' fr hb hle hr ER =>
          have zK:gF (ctx h0 w0 ρ st w) cs ((arr.toList.drop off).take cs.length):=by
           refine⟨by simp;omega,fun i x y hx hy=>?_,fun i y hy=>?_⟩
           ·have hi:=(List.getElem?_eq_some_iff.1 hx).1
            rw[List.getElem?_take,if_pos hi,List.getElem?_drop] at hy;exact hr i x y hx (by simpa using hy)
           ·rw[List.getElem?_take] at hy;split at hy
            ·rename_i hi;rw[List.getElem?_drop] at hy;exact ER i y hi (by simpa using hy)
            ·cases hy
          refine fin _ zK (main _ _ rfl zK fun _=>⟨⟨b,off,none⟩,rfl,fun j u hu=>?_⟩)
          rw[lW,cell_of_row w b (off+j) arr T' fr hb.1];rw[List.getElem?_take] at hu;split at hu
          ·rw[List.getElem?_drop] at hu;simpa using hu
          ·cases hu
       ·cases h
      ·cases h
     ·cases h
theorem CU (S:kX F h0 w0 nt ρ st a w) {T ty:Nat} {s x:AV} {u:Nat × Nat × oB × Nat} {sv xv:Value} (h:oC P st T s x=some u)
 (hs:cZ (ctx h0 w0 ρ st w) s sv) (hx:cZ (ctx h0 w0 ρ st w) x xv) :
 ∃v w',(Builtin.append_ #[T,T] ty #[sv,xv]).run P w=.ok v w'∧kX F h0 w0 nt ρ (st.jB u.1 u.2.1 (some u.2.2.1)) a w' ∧
  cZ (ctx h0 w0 ρ (st.jB u.1 u.2.1 (some u.2.2.1)) w') (.vw u.1 u.2.1 0 u.2.2.2) v:=by
 unfold oC at h;split at h
 ·rename_i e sz by_ m news s' g' k TT hv
  obtain⟨ei,ez,hT,Cg,CD,rfl,BX,rfl,yE⟩:=kH TT
  cases he:st.heap s' g' with
  | none=>simp[he] at h
  | some en =>
    cases en with
    | row e' tT n cs =>
      simp only[he] at h;split at h
      ·rename_i hc;obtain⟨rfl,rfl,hlen,aDx⟩:=hc
       simp only[Option.some.injEq] at h;subst h;obtain⟨p,c,rfl,aAm⟩:=sU S hv hx
       have aAn:∃nv:List Value,gF (ctx h0 w0 ρ st w) news nv∧(nv≠[]→∃ad,p=some ad∧∀(j:Nat) (u:Value),nv[j]? = some u→w.cell? (ad.add j)=some u):=by
        by_cases gP:news=[]
        ·subst gP;exact⟨[],.nil _,fun h=>absurd rfl h⟩
        ·obtain⟨b,off,arr,T',fr,hp,hb,hc⟩:=aAm gP
         refine⟨_,hc,fun _=>⟨_,hp,fun j u hu=>?_⟩⟩
         rw[lW,cell_of_row w b (off+j) arr T' fr hb];rw[List.getElem?_take] at hu;split at hu
         ·rw[List.getElem?_drop] at hu;simpa using hu
         ·cases hu
       obtain⟨nv,Uz,pA⟩:=aAn
       have TN:nv.length=m * ei.size:=by rw[← Uz.len,hlen]
       have Rb:∀u∈nv,u.oneCell'=true:=fun u hu=>by
        obtain⟨j,hj,rfl⟩:=List.getElem_of_mem hu
        exact Uz.one j _ (by simp)
       obtain⟨_,_,xs,ho,zK⟩:=S.sT s' g' _ he
       cases hs with
       | vw _ _ _ _ b cap hg hb mZ zD =>
         have oF:dK (ρ s' g')=some b:=hb
         rcases ho.2 with ⟨q,lC,hn⟩|⟨b',CC,cur,lC,xE,hh,H7,VT,IQ,ht,qT⟩
         ·rw[lC,pX] at oF;cases oF
         ·have xL:b'=b:=by rw[lC,kJ qT] at oF;simpa using oF
          subst xL;have hcc:cap=CC:=zD rfl _ _ _ lC
          subst hcc;have H2:(k+m) * ei.size≤n * ei.size:=Nat.mul_le_mul_right _ aDx
          have hnn:n * ei.size≤cap * ei.size:=Nat.mul_le_mul_right _ H7
          rw[Nat.add_mul] at H2;have hcl':cur.toList.length=cur.size:=rfl
          have qH:(Builtin.append_ #[T,T] ty #[.slice (some ⟨b',0,none⟩) k cap,.slice p m c]).run P w=.ok (.slice (some ⟨b',0,none⟩) (k+m) cap) (w.setRow b' (cur.toList.take (k * ei.size)++nv++cur.toList.drop (k * ei.size+nv.length)).toArray):=by
           by_cases gP:nv=[]
           ·have hm:m=0:=by
             rw[gP] at TN;rcases Nat.eq_zero_or_pos m with h|h
             ·exact h
             ·have:=Nat.mul_pos h yE
              simp at TN
              omega
            subst hm;have hfc:∀(x:Value),(∃p,x=.slice p 0 c)→(Builtin.firstCells ei.size 0 x).run P w=.ok #[] w:=by
             rintro x ⟨p,rfl⟩
             cases p<;>simp[Builtin.firstCells,loadCells,loadCellsFrom]
            have e0:(cur.toList.take (k * ei.size)++nv++cur.toList.drop (k * ei.size+nv.length)).toArray=cur:=by
             rw[gP];simp
            rw[e0,setRow_self w b' cur e' (0,0) hh];have hkc:k≤cap:=by omega
            simp[Builtin.append_,bD hT,run_sizeOf w Cg,Builtin.lenOf,hfc _ ⟨p,rfl⟩,storeCells,hkc]
           ·obtain⟨ad,rfl,Zk⟩:=pA gP
            exact run_append_room (P:=P) w T ty e' ei hT Cg b' k cap cur hh ad m c nv TN Zk Rb (by omega) (by omega)
          have hxl:=ho.1
          have hcsl:=zK.len
          have S':=S.store (e':=.row e' ei.size n (cs.take (k * ei.size)++news++cs.drop (k * ei.size+m * ei.size))) (w':=w.setRow b' (cur.toList.take (k * ei.size)++nv++cur.toList.drop (k * ei.size+nv.length)).toArray) he oF ⟨rfl,rfl,rfl,by simp,fun j _ hj=>setRow_other w b' j _ (fun e=>hj (by rw[e]))⟩ (fun C kC=>by
           refine⟨xs.take (k * ei.size)++nv++xs.drop (k * ei.size+m * ei.size),⟨by simp;omega,.inr ⟨b',cap,_,lC,xE,setRow_heap w b' cur _ e' (0,0) hh,H7,VT,by simp;omega, ?_,qT⟩⟩,(((zK.take _).app Uz).app (zK.drop _)).le kC⟩
           simp only
           rw[← ht,TN];have l1:(cur.toList.take (k * ei.size)++nv).length=k * ei.size+m * ei.size:=by simp;omega
           rw[List.take_append,l1,List.take_of_length_le (by omega),List.drop_take,List.take_take,Nat.min_eq_left (by omega)])
          exact⟨_,_,qH,S',.vw s' g' 0 _ b' cap hg hb (by show k+m≤cap;omega) (fun _=>zD rfl)⟩
      ·cases h
    | _=>simp[he] at h
 ·cases h
theorem PK (S:kX F h0 w0 nt ρ st a w) {T ty:Nat} {x:AV} {u:Option (Nat × Nat × oB)} {xv:Value} (h:sE P st T x=some u) (hx:cZ (ctx h0 w0 ρ st w) x xv) :
 ∃w',(Builtin.clear_ #[T] ty #[xv]).run P w=.ok (.tuple #[]) w'∧kX F h0 w0 nt ρ (match u with|some p=>st.jB p.1 p.2.1 (some p.2.2)|none=>st) a w':=by
 unfold sE at h;split at h
 ·rename_i e sz by_ s g o k TT _;obtain⟨ei,ez,hT,Cg,CD,rfl,BX,rfl,yE⟩:=kH TT
  split at h
  ·rename_i z e' tT n cs hz he
   split at h
   ·rename_i hc;obtain⟨rfl,rfl,aDx⟩:=hc
    simp only[Option.some.injEq] at h;subst h;obtain⟨i',zv,Db,MD,rfl,Q0⟩:=zH hz
    rw[Cg] at Db
    cases Db
    rw[CD] at MD;cases MD
    obtain⟨_,_,xs,ho,zK⟩:=S.sT s g _ he
    cases hx with
    | vw _ _ _ _ b cap hg hb mZ zD =>
      have oF:dK (ρ s g)=some b:=hb
      rcases ho.2 with ⟨q,lC,hn⟩|⟨b',CC,cur,lC,xE,hh,H7,VT,IQ,ht,qT⟩
      ·rw[lC,pX] at oF;cases oF
      ·have xL:b'=b:=by rw[lC,kJ qT] at oF;simpa using oF
       subst xL;have hxl:=ho.1
       have hcsl:=zK.len
       have hnn:n * ei.size≤CC * ei.size:=Nat.mul_le_mul_right _ H7
       have hcl':cur.toList.length=cur.size:=rfl
       have WN:(Builtin.zeroCells ez.cells k).toList=(List.range k).flatMap fun _=>ez.cells.toList:=by
        unfold Builtin.zeroCells;rw[← Ii]
       have hzl:((List.range k).flatMap fun _=>ez.cells.toList).length=k * ei.size:=by
        rw[← WN,Array.length_toList,size_zeroCells,BX]
       have hz1':∀v∈(List.range k).flatMap fun _=>ez.cells.toList,v.oneCell'=true:=fun v hv=>by
        obtain⟨_,_,hv⟩:=List.mem_flatMap.1 hv
        exact Q0 v hv
       have rY:=run_storeCells_at P b' o e' ((List.range k).flatMap fun _=>ez.cells.toList) 0 cur w hh (by rw[hzl];omega) hz1'
       simp only[Nat.add_zero] at rY;have S':=S.store (e':=.row e' ei.size n (cs.take o++((List.range k).flatMap fun _=>ez.cells.toList.map .v)++cs.drop (o+k * ei.size))) (w':=w.setRow b' (cur.toList.take o++((List.range k).flatMap fun _=>ez.cells.toList)++cur.toList.drop (o+((List.range k).flatMap fun _=>ez.cells.toList).length)).toArray) he oF ⟨rfl,rfl,rfl,by simp,fun j _ hj=>setRow_other w b' j _ (fun e=>hj (by rw[e]))⟩ (fun C kC=>by
        refine⟨xs.take o++((List.range k).flatMap fun _=>ez.cells.toList)++xs.drop (o+k * ei.size),⟨by rw[List.length_append,List.length_append,hzl];simp;omega,.inr ⟨b',CC,_,lC,xE,setRow_heap w b' cur _ e' (0,0) hh,H7,VT,by rw[List.size_toArray,List.length_append,List.length_append,hzl];simp;omega, ?_,qT⟩⟩,(((zK.take _).le kC).app (Jz Q0 k)).app ((zK.drop _).le kC)⟩
        simp only
        rw[← ht,hzl];have l1:(cur.toList.take o++((List.range k).flatMap fun _=>ez.cells.toList)).length=o+k * ei.size:=by rw[List.length_append,hzl];simp;omega
        rw[List.take_append,l1,List.take_of_length_le (by omega),List.drop_take,List.take_take,Nat.min_eq_left (by omega)])
       refine⟨_, ?_,S'⟩
       have hzv:(zeroValue e').run P w=.ok ez w:=by simp[zeroValue,typeInfo,Cg,CD]
       cases k with
       | zero =>
         have e0:(cur.toList.take o++((List.range 0).flatMap fun _=>ez.cells.toList)++cur.toList.drop (o+((List.range 0).flatMap fun _=>ez.cells.toList).length)).toArray=cur:=by simp
         rw[e0,setRow_self w b' cur e' (0,0) hh];simp[Builtin.clear_,bD hT]
       | succ k =>
         have hst2:(storeCells ⟨b',o,none⟩ (Builtin.zeroCells ez.cells (k+1)).toList).run P w=.ok () (w.setRow b' (cur.toList.take o++((List.range (k+1)).flatMap fun _=>ez.cells.toList)++cur.toList.drop (o+((List.range (k+1)).flatMap fun _=>ez.cells.toList).length)).toArray):=by rw[WN];exact rY
         obtain⟨W,hW⟩:∃W,w.setRow b' (cur.toList.take o++((List.range (k+1)).flatMap fun _=>ez.cells.toList)++cur.toList.drop (o+((List.range (k+1)).flatMap fun _=>ez.cells.toList).length)).toArray=W:=⟨_,rfl⟩
         rw[hW] at hst2;rw[hW];simp[Builtin.clear_,bD hT,hzv,hst2]
   ·cases h
  ·cases h
 ·rename_i t cs TT _;simp only[Option.some.injEq] at h;subst h;obtain⟨e,sz,by_⟩:=t
  obtain⟨ei,ez,hT,_⟩:=kH TT
  refine⟨w, ?_,S⟩
  cases hx with
  | LZ n cap p mZ=>cases p<;>simp[Builtin.clear_,bD hT]
  | sl n cs b off cap arr T fr mZ hb hle hr h1=>simp[Builtin.clear_,bD hT]
 ·rename_i t TT _;simp only[Option.some.injEq] at h;subst h;obtain⟨e,sz,by_⟩:=t
  obtain⟨ei,ez,hT,_⟩:=kH TT
  have:=iO hx
  subst this;exact⟨w,by simp[Builtin.clear_,bD hT],S⟩
 ·cases h
theorem WO {C:Ctx} {x:AV} {v:Value} {g:Nat} {mG:List AV} (h:HA x=some (g,mG)) (hr:cZ C x v):∃cv,v=.func (.func g) #[] cv∧lS C mG cv.toList:=by
 unfold HA at h;split at h
 ·split at h
  ·rename_i hc;obtain⟨rfl,rfl⟩:=hc
   simp only[Option.some.injEq,Prod.mk.injEq] at h;obtain⟨rfl,rfl⟩:=h
   have:=iO hr
   subst this;exact⟨#[],rfl,.nil C⟩
  ·cases h
 ·simp only[Option.some.injEq,Prod.mk.injEq] at h;obtain⟨rfl,rfl⟩:=h
  cases hr with
  | rW f cs a hl hr=>exact⟨a,rfl,by simpa using hl,fun i x y hx hy=>hr i x y hx (by simpa using hy)⟩
 ·cases h
variable [Ext]
theorem CV (S:kX F h0 w0 nt ρ st a w) {call:Nat→List AV→Option AV} (kK:rH P call) {o:Oper} {c:Call} (qK:o.op=.call c) {e:rX}
 (h:iT P call c o.dst st=some e) (hd:∀d,o.dst=some d→d<nt)
 (hK:∀oG a' w',kX F h0 w0 nt oG (e.apply st) a' w'→K a' w'):o.wp P a w K Q:=by
 have tR:lS (ctx h0 w0 ρ st w) (c.args.toList.map st.ev) (c.args.toList.map a.eval):=lS.map _ _ _ fun p _=>S.ev p
 unfold iT at h;split at h
 ·rename_i f hf;have fin:∀g cv,a.eval f=.func (.func g) #[] cv→(Ie P g∧Calls P g (c.args.map a.eval++cv) w fun en w'=>∃v,en=.returned v∧K (a.put o.dst v) w')→o.wp P a w K Q:=by
   rintro g cv hv ⟨⟨fn,aHK,aAo,aAp⟩,WQ⟩
   have hnb:fn.body.isNone=false:=by
    cases hb:fn.body<;>simp[hb] at aAp ⊢
   have Rb : ¬ fn.name = "runtime.NumGoroutine" := by simpa using aAo
   have hn2:¬fn.body=none:=by intro h;simp[h] at hnb
   have qH:(execOp a.eval o).run P w=.ok (.enter g (c.args.map a.eval++cv)) w:=by
    simp[execOp,qK,resolve,hf,hv,Deferred.ofValue,invoke,callFunc,aHK,Rb,hn2]
   unfold Oper.wp;rw[qH,Oper.upon_enter];refine WQ.mono ?_
   rintro en w' ⟨v,rfl,hk⟩
   exact hk
  have gen:∀g mG,HA (st.ev f)=some (g,mG)→aM call g (c.args.toList.map st.ev++mG) st o.dst=some e→o.wp P a w K Q:=by
   intro g mG hfn h;obtain⟨cv,hv,hcaps⟩:=WO hfn (S.ev f)
   have gC:lS (ctx h0 w0 ρ st w) (c.args.toList.map st.ev++mG) (c.args.map a.eval++cv).toList:=by
    simpa using tR.app hcaps
   exact fin g cv hv (Fk S kK h gC hd hK)
  unfold oD at h;split at h
  ·rename_i g;split at h
   ·refine fin g #[] rfl ?_
    exact IT S kK h (by simpa using tR) hd hK
   ·split at h
    ·refine fin g #[] rfl ?_
     exact CT S kK h (by simpa using tR) hd hK
    ·exact gen g [] rfl (by simpa using h)
  ·split at h
   ·rename_i g mG hfn;exact gen g mG hfn h
   ·cases h
 ·rename_i hf;split at h
  ·rename_i x T hx hT;cases hs:dW P T with
   | none=>simp[hs] at h
   | some t =>
     cases hv:aX st (st.ev x) with
     | none=>simp[hs,hv] at h
     | some nc =>
       obtain⟨n,cs⟩:=nc
       simp only[hs,hv,Option.some.injEq] at h;subst h;obtain⟨p,cap,Fm,_⟩:=sU S hv (S.ev x)
       obtain⟨e,sz,by_⟩:=t
       obtain⟨ei,ez,hu,_⟩:=kH hs
       have ha:c.args=#[x]:=by apply Array.ext';simpa using hx
       have ht:c.argTypes=#[T]:=by apply Array.ext';simpa using hT
       refine upon_value (v:=.int .i64 n) ?_ (hK ρ _ w (S.put o.dst hd (.v _)))
       simp[execOp,qK,resolve,hf,ha,ht,invoke,builtin,Builtin.len_,Fm,bD hu,goInt]
  ·cases h
 ·rename_i hf;split at h
  ·rename_i x y hx;split at h
   ·rename_i k p k' q h1 h2
    simp only[Option.some.injEq] at h;subst h;have e1:=S.ev x
    rw[h1] at e1;have e1:=iO e1
    have e2:=S.ev y
    rw[h2] at e2;have e2:=iO e2
    have ha:c.args=#[x,y]:=by apply Array.ext';simpa using hx
    refine upon_value (v:=.int k (if q<p then q else p)) ?_ (hK ρ _ w (S.put o.dst hd (.v _)))
    simp[execOp,qK,resolve,hf,ha,invoke,builtin,Builtin.min_,Builtin.min2,e1,e2]
   ·cases h
  ·cases h
 ·rename_i hf;split at h
  ·rename_i x y hx;split at h
   ·rename_i k p k' q h1 h2
    simp only[Option.some.injEq] at h;subst h;have e1:=S.ev x
    rw[h1] at e1;have e1:=iO e1
    have e2:=S.ev y
    rw[h2] at e2;have e2:=iO e2
    have ha:c.args=#[x,y]:=by apply Array.ext';simpa using hx
    refine upon_value (v:=.int k (if q > p then q else p)) ?_ (hK ρ _ w (S.put o.dst hd (.v _)))
    simp[execOp,qK,resolve,hf,ha,invoke,builtin,Builtin.max_,Builtin.max2,e1,e2]
   ·cases h
  ·cases h
 ·rename_i hf;cases lI:o.dst with
  | none=>simp[lI,cT] at h
  | some d =>
  simp only[lI,cT] at h;split at h
  ·rename_i s x T T' hx hT
   split at h
   ·rename_i hTT;subst hTT;split at h
    ·cases nK:oC P st T (st.ev s) (st.ev x) with
     | none=>simp[nK] at h
     | some u =>
     simp only[nK,Option.map_some,Option.some.injEq] at h;subst h;obtain⟨v,w',hr,S',hv⟩:=CU (ty:=o.type) S nK (S.ev s) (S.ev x)
     have ha:c.args=#[s,x]:=by apply Array.ext';simpa using hx
     have ht:c.argTypes=#[T,T]:=by apply Array.ext';simpa using hT
     rw[lI] at hd;have hk:=hK ρ _ w' (S'.put (some d) hd hv)
     unfold Oper.wp;simp only[execOp,qK,resolve,hf,ha,ht,invoke,builtin];simp[hr]
     unfold Oper.upon;rw[lI];exact hk
    split at h
    ·rename_i hpa;obtain⟨_,hs0,TT,hv'⟩:=hpa
     obtain⟨⟨_,cs⟩,hv,hv0⟩:=Option.map_eq_some_iff.1 hv'
     simp only at hv0
     subst hv0;simp only[Option.some.injEq] at h;subst h;have e1:=S.ev s
     rw[hs0] at e1;have e1:=iO e1
     obtain⟨q,c',hxv,_⟩:=sU S hv (S.ev x)
     cases hsi:dW P T with
     | none=>rw[hsi] at TT;cases TT
     | some t =>
     obtain⟨e,sz,by_⟩:=t
     obtain⟨ei,ez,hT',Cg,_⟩:=kH hsi
     have hz:∀w:World,(Builtin.firstCells ei.size 0 (.slice q 0 c')).run P w=.ok ([]:List Value).toArray w:=fun w=>by cases q<;>simp[Builtin.firstCells,loadCells,loadCellsFrom]
     have hr:(Builtin.append_ #[T,T] o.type #[.slice none 0 0,.slice q 0 c']).run P w=.ok (.slice none 0 0) w:=run_append_nothing w T T o.type e ei hT' Cg none 0 0 (Nat.le_refl _) _ ⟨.inl ⟨e,hT'⟩,fun w'=>by simp[Builtin.lenOf],hz _,hz _,by simp,by simp⟩
     have ha:c.args=#[s,x]:=by apply Array.ext';simpa using hx
     have ht:c.argTypes=#[T,T]:=by apply Array.ext';simpa using hT
     rw[lI] at hd;refine upon_value (v:=.slice none 0 0) ?_ (by rw[lI];exact hK ρ _ w (S.put (some d) hd (.v _)))
     simp[execOp,qK,resolve,hf,ha,ht,invoke,builtin,e1,hxv,hr]
    cases nK:dJ P st T (st.ev s) (st.ev x) with
    | none=>simp[nK] at h
    | some ur =>
      obtain⟨u,r⟩:=ur
      simp only[nK,Option.some.injEq] at h;subst h;obtain⟨v,w',oG,hr,S'⟩:=IV (ty:=o.type) S (hd d lI) nK (S.ev s) (S.ev x)
      have ha:c.args=#[s,x]:=by apply Array.ext';simpa using hx
      have ht:c.argTypes=#[T,T]:=by apply Array.ext';simpa using hT
      have hk:=hK oG _ w' S'
      unfold Oper.wp;simp only[execOp,qK,resolve,hf,ha,ht,invoke,builtin];simp[hr]
      unfold Oper.upon;rw[lI];exact hk
   ·cases h
  ·cases h
 ·rename_i hf;split at h
  ·rename_i x T hx hT;cases nK:sE P st T (st.ev x) with
   | none=>simp[nK] at h
   | some u =>
     simp only[nK,Option.map_some,Option.some.injEq] at h;subst h;obtain⟨w',hr,S'⟩:=PK (ty:=o.type) S nK (S.ev x)
     have ha:c.args=#[x]:=by apply Array.ext';simpa using hx
     have ht:c.argTypes=#[T]:=by apply Array.ext';simpa using hT
     have hk:=hK ρ (a.put o.dst (.tuple #[])) w' (by
      have:=S'.put o.dst hd (x:=.eG []) (v:=.tuple #[]) (.eG [] #[] rfl (by simp))
      cases u with
      | none=>exact this
      | some p=>exact this)
     unfold Oper.wp;simp only[execOp,qK,resolve,hf,ha,ht,invoke,builtin];simp[hr]
     unfold Oper.upon;exact hk
  ·cases h
 ·cases h
theorem Ud (S:kX F h0 w0 nt ρ st a w) {call:Nat→List AV→Option AV} (kK:rH P call) {o:Oper} {e:rX} (h:dT P call o st=some e) (hd:∀d,o.dst=some d→d<nt)
 (hK:∀oG a' w',kX F h0 w0 nt oG (e.apply st) a' w'→K a' w'):o.wp P a w K Q:=by
 unfold dT at h;split at h
 ·rename_i T qK;cases lI:o.dst with
  | none=>simp[lI,cT] at h
  | some d =>
    cases hz:eI P T with
    | none=>simp[lI,hz,cT] at h
    | some z =>
      simp only[lI,hz,cT,Option.some.injEq] at h;subst h;obtain⟨i,zv,hi,MD,rfl,Q0⟩:=zH hz
      obtain⟨oG,S'⟩:=S.newVar d (hd d lI) (zv.cells.toList.map .v) zv.cells T (gF.vs _ _ Q0)
      refine upon_value (v:=.pointer (some ⟨w.heap.size,0,none⟩)) (w':=w.alloc (.cells zv.cells T)) ?_ (by rw[lI];exact hK oG _ _ (by rw[lN];exact S'))
      simp only[execOp,qK,Instr.alloc];simp[Ce w hi MD,Go.newVar,Go.newRow]
 ·rename_i T x qK;cases lI:o.dst with
  | none=>simp[lI,cT] at h
  | some d =>
    simp only[lI,cT] at h;split at h
    ·rename_i rY;simp only[Option.some.injEq] at h;subst h;obtain⟨oG,S'⟩:=S.newVar d (hd d lI) (st.ev x).cells (a.eval x).cells T ((S.ev x).cells rY)
     refine upon_value (v:=.pointer (some ⟨w.heap.size,0,none⟩)) (w':=w.alloc (.cells (a.eval x).cells T)) ?_ (by rw[lI];exact hK oG _ _ (by rw[lN];exact S'))
     simp only[execOp,qK,Instr.box];simp[Go.newVar,Go.newRow]
    ·cases h
 ·rename_i T n parts qK;cases lI:o.dst with
  | none=>simp[lI,cT] at h
  | some d =>
    cases hs:dW P T with
    | none=>simp[lI,hs,cT] at h
    | some t =>
      obtain⟨e',sz,by_⟩:=t
      cases hz:eI P e' with
      | none=>simp[lI,hs,hz,cT] at h
      | some z =>
        simp only[lI,hs,hz,cT] at h;split at h
        ·rename_i hc;obtain⟨c1,c2,c3⟩:=hc
         cases hf:gS (fun i=>some (i * sz,sz)) ((List.range n).flatMap fun _=>z.map .v) (parts.toList.map fun p=>(p.1,st.ev p.2)) with
         | none=>simp[hf] at h
         | some cs =>
           simp only[hf,Option.some.injEq] at h;subst h;obtain⟨v,w',xs,hr,hg,ho,pA⟩:=Sh S hs hz c1 c2 c3 hf
           obtain⟨oG,S'⟩:=S.newRow d (hd d lI) hg e' sz n cs xs v ho pA
           refine upon_value (v:=v) (w':=w') ?_ (by rw[lI];exact hK oG _ _ (by rw[lN];exact S'))
           simp only[execOp,qK];rw[dQ hr];rfl
        ·cases h
 ·rename_i T l c qK;cases lI:o.dst with
  | none=>simp[lI,cT] at h
  | some d =>
    cases hs:dW P T with
    | none=>simp[lI,hs,cT] at h
    | some t =>
      obtain⟨e',sz,by_⟩:=t
      cases hz:eI P e' with
      | none=>simp[lI,hs,hz,cT] at h
      | some z =>
        simp only[lI,hs,hz,cT] at h;split at h
        ·rename_i n m hl hc;split at h
         ·rename_i P9;obtain⟨c1,rfl,c3,c4⟩:=P9
          simp only[Option.some.injEq] at h;subst h;obtain⟨k,rfl⟩:∃k:Nat,n=k:=⟨n.toNat,by omega⟩
          obtain⟨v,w',xs,hr,hg,ho,pA⟩:=Vb (w:=w) (ctx h0 w0 ρ st w) hs hz (n:=k) (by
           have:((k * by_:Nat):Int)≤140737488355328:=by rw[Int.natCast_mul];exact c3
           omega) (by omega)
          obtain⟨oG,S'⟩:=S.newRow d (hd d lI) hg e' sz k _ xs v ho pA
          simp only[Int.toNat_natCast] at hK;refine upon_value (v:=v) (w':=w') ?_ (by rw[lI];exact hK oG _ _ (by rw[lN];exact S'))
          have e1:=S.ev l
          rw[hl] at e1;have e1:=iO e1
          have e2:=S.ev c
          rw[hc] at e2;have e2:=iO e2
          simp only[execOp,qK,e1,e2];rw[dQ hr];rfl
         ·cases h
        ·cases h
 ·rename_i T x y qK;cases hs:qB P st T (st.ev x) (st.ev y) with
  | none=>simp[hs] at h
  | some u =>
    obtain⟨s,g,e'⟩:=u
    simp only[hs,Option.map_some,Option.some.injEq] at h;subst h;obtain⟨w',hr,S'⟩:=PJ S hs (S.ev x) (S.ev y)
    have hk:=hK ρ _ w' (S'.put o.dst hd (.v undef))
    unfold Oper.wp;simp only[execOp,qK];rw[dQ hr];exact hk
 ·rename_i T qK;cases lI:o.dst with
  | none=>simp[lI,cT] at h
  | some d =>
    simp only[lI,cT,Option.some.injEq] at h;subst h;obtain⟨S',k,pF⟩:=S.new (World.grownBy_alloc w (.map #[] 0) none) d (.map []) (.map (some w.heap.size)) rfl (fun b hb=>by simp[dK] at hb;omega)
     (fun C k _=>⟨w.heap.size,#[],0,rfl,S.ext.size,heap_alloc_new w _,trivial⟩)
    have aY:st.aT d<(ctx h0 w0 (uC ρ d (st.aT d) (.map (some w.heap.size))) (st.new d (.map [])) (w.alloc (.map #[] 0))).aT d:=by simp[ctx,St.new]
    have lC:(ctx h0 w0 (uC ρ d (st.aT d) (.map (some w.heap.size))) (st.new d (.map [])) (w.alloc (.map #[] 0))).ρ d (st.aT d)=.map (some w.heap.size):=pF
    have:=cZ.mp (C:=ctx h0 w0 (uC ρ d (st.aT d) (.map (some w.heap.size))) (st.new d (.map [])) (w.alloc (.map #[] 0))) d (st.aT d) aY (by rw[lC];rfl)
    rw[lC] at this;have hS:=S'.put (some d) (fun t ht=>by cases ht;exact hd d lI) this
    refine upon_value (v:=.map (some w.heap.size)) (w':=w.alloc (.map #[] 0)) ?_ (by rw[lI];exact hK _ _ _ (by rw[lN];exact hS))
    simp only[execOp,qK,Option.map_none];rfl
 ·rename_i T m x y qK;cases hs:tZ P st T (st.ev m) (st.ev x) (st.ev y) with
  | none=>simp[hs] at h
  | some u =>
    obtain⟨s,g,e'⟩:=u
    simp only[hs,Option.map_some,Option.some.injEq] at h;subst h;obtain⟨w',hr,S'⟩:=IM S hs (S.ev m) (S.ev x) (S.ev y)
    have hk:=hK ρ _ w' (S'.put o.dst hd (.v undef))
    unfold Oper.wp;simp only[execOp,qK];rw[dQ hr];exact hk
 ·rename_i c qK;exact CV S kK qK h hd hK
 ·cases hv:iX P st o.op with
  | none=>simp[hv] at h
  | some x =>
    simp only[hv,Option.map_some,Option.some.injEq] at h;subst h;obtain⟨v,hr,gC⟩:=PE S hv
    exact upon_value hr (hK ρ _ w (S.put o.dst hd gC))
end
end Go.Ab
end
section
namespace Go.Ab
open Classical
def mN (aT:Nat→Nat) (x:AV):Prop:=∃(C:Ctx) (v:Value),C.aT=aT∧cZ C x v
theorem mN.ptr {aT:Nat→Nat} {s g o:Nat} (h:mN aT (.ptr s g o)):g<aT s:=by
 obtain⟨C,v,rfl,h⟩:=h
 cases h with
 | ptr s g off b hg hb=>exact hg
theorem mN.own {aT:Nat→Nat} {s g:Nat} (h:mN aT (.own s g)):g<aT s:=by
 obtain⟨C,v,rfl,h⟩:=h
 cases h with
 | own s g hg _=>exact hg
theorem mN.vw {aT:Nat→Nat} {s g o n:Nat} (h:mN aT (.vw s g o n)):g<aT s:=by
 obtain⟨C,v,rfl,h⟩:=h
 cases h with
 | vw s g o n b cap hg _ _ _=>exact hg
theorem mN.mp {aT:Nat→Nat} {s g:Nat} (h:mN aT (.mp s g)):g<aT s:=by
 obtain⟨C,v,rfl,h⟩:=h
 cases h with
 | mp s g hg _=>exact hg
theorem mN.agg {aT:Nat→Nat} {cs:List AV} (h:mN aT (.agg cs)):∀c∈cs,mN aT c:=by
 obtain⟨C,v,rfl,h⟩:=h
 cases h with
 | agg cs a hl hr _ =>
   intro c hc;obtain⟨i,hi,rfl⟩:=List.getElem_of_mem hc
   exact⟨C,a[i],rfl,hr i _ _ (by simp[hi]) (by simp)⟩
theorem mN.rW {aT:Nat→Nat} {f:Nat} {cs:List AV} (h:mN aT (.rW f cs)):∀c∈cs,mN aT c:=by
 obtain⟨C,v,rfl,h⟩:=h
 cases h with
 | rW f cs a hl hr =>
   intro c hc;obtain⟨i,hi,rfl⟩:=List.getElem_of_mem hc
   exact⟨C,a[i]'(by omega),rfl,hr i _ _ (by simp[hi]) (by simp)⟩
section
variable {P:Program} {call:Nat→List AV→Option AV} {st st':St}
def qI (st st':St):Prop:=∀s g,g<st.aT s→st'.heap s g=st.heap s g
theorem IW {x:AV} (hx:mN st.aT x) (hh:qI st st'):qS st' x=qS st x:=by
 cases x<;>simp only[qS]
 rw[hh _ _ hx.ptr]
theorem sV {x:AV} (hx:mN st.aT x) (hh:qI st st'):aX st' x=aX st x:=by
 cases x
 case own=>simp only[aX,hh _ _ hx.own]
 case vw=>simp only[aX,hh _ _ hx.vw]
 case v y =>
  cases y
  case slice p n c=>cases p<;>cases n<;>cases c<;>rfl
  all_goals rfl
 all_goals rfl
theorem Sj {T:Nat} {x i:AV} (hx:mN st.aT x) (hh:qI st st'):bH P st' T x i=bH P st T x i:=by
 unfold bH;cases x<;>try rfl
 simp only[hh _ _ hx.own]
theorem Zl {T:Nat} {x:AV} {lo hi:Option Operand} (hx:∀s g,((∃o,x=.ptr s g o)∨x=.own s g∨∃o n,x=.vw s g o n)→st'.heap s g=st.heap s g) (hl:∀p,lo=some p→st'.ev p=st.ev p) (Db:∀p,hi=some p→st'.ev p=st.ev p):dB P st' T x lo hi=dB P st T x lo hi:=by
 unfold dB;cases dW P T with
 | none =>
   simp only
   cases jJ P T with
   | none=>rfl
   | some na =>
     cases x<;>try rfl
     rename_i s g o;cases lo<;>cases hi<;>try rfl
     simp only[hx s g (.inl ⟨o,rfl⟩)]
 | some t =>
   simp only
   cases x<;>try rfl
   case v y =>
    cases y<;>try rfl
    rename_i p n c;cases p<;>cases n<;>cases c<;>try rfl
    cases lo with
    | none=>cases hi with
      | none=>rfl
      | some h=>simp only[Db h rfl]
    | some l=>cases hi with
      | none=>simp only[hl l rfl]
      | some h=>simp only[hl l rfl,Db h rfl]
   case sl n cs =>
    cases lo with
    | none=>cases hi with
      | none=>rfl
      | some h=>simp only[Db h rfl]
    | some l=>cases hi with
      | none=>simp only[hl l rfl]
      | some h=>simp only[hl l rfl,Db h rfl]
   case own s g =>
    simp only[hx s g (.inr (.inl rfl))];cases lo with
    | none=>cases hi with
      | none=>rfl
      | some h=>simp only[Db h rfl]
    | some l=>cases hi with
      | none=>simp only[hl l rfl]
      | some h=>simp only[hl l rfl,Db h rfl]
   case vw s g o n =>
    cases o with
    | succ o=>rfl
    | zero =>
      simp only[hx s g (.inr (.inr ⟨_,_,rfl⟩))];cases st.heap s g with
      | none=>rfl
      | some e=>cases e with
        | row e' tT n' Ek =>
          cases lo with
          | none=>cases hi<;>rfl
          | some l=>cases hi with
            | none=>rfl
            | some h=>simp only[hl l rfl,Db h rfl]
        | _=>rfl
theorem IX {T:Nat} {x:AV} {lo hi:Option Operand} (hx:mN st.aT x) (hh:qI st st') (hl:∀p,lo=some p→st'.ev p=st.ev p) (Db:∀p,hi=some p→st'.ev p=st.ev p):dB P st' T x lo hi=dB P st T x lo hi :=
 Zl (fun s g h=>by
  rcases h with ⟨o,rfl⟩|rfl|⟨o,n,rfl⟩
  ·exact hh _ _ hx.ptr
  ·exact hh _ _ hx.own
  ·exact hh _ _ hx.vw) hl Db
def CW (st:St):Prop:=∀s g cs,st.heap s g=some (.cells cs)→∀c∈cs,mN st.aT c
theorem PL {x:AV} (hx:mN st.aT x) (hh:qI st st'):wO st' x=wO st x:=by
 unfold wO;cases x<;>try rfl
 ·simp only[hh _ _ hx.own]
 ·simp only[hh _ _ hx.vw]
theorem Ij (hp:CW st) {x:AV} (hx:mN st.aT x) (hh:qI st st'):cS st' x=cS st x:=by
 unfold cS;cases x<;>try rfl
 ·rename_i s g o;simp only[hh _ _ hx.ptr];cases he:st.heap s g with
  | none=>rfl
  | some e =>
    cases e with
    | cells cs =>
      have:cs.map (wO st')=cs.map (wO st):=List.map_congr_left fun c hc=>PL (hp s g cs he c hc) hh
      simp only[this]
    | _=>rfl
 ·simp only[hh _ _ hx.own]
 ·simp only[hh _ _ hx.vw]
theorem Zm (hp:CW st) {x:AV} (hx:mN st.aT x) (hh:qI st st'):fO st' x=fO st x:=by
 unfold fO;cases x<;>try (simp only[Ij hp hx hh];done)
 ·rename_i cs;have:cs.map (cS st')=cs.map (cS st):=List.map_congr_left fun c hc=>Ij hp (hx.agg c hc) hh
  simp only[this]
 ·rename_i f cs;have:cs.map (cS st')=cs.map (cS st):=List.map_congr_left fun c hc=>Ij hp (hx.rW c hc) hh
  simp only[this]
theorem IY {T:Nat} {x y:AV} (hx:mN st.aT x) (hh:qI st st'):qB P st' T x y=qB P st T x y:=by
 unfold qB;cases x<;>try rfl
 simp only[hh _ _ hx.ptr]
theorem CX {T:Nat} {s x:AV} (hs:mN st.aT s) (hx:mN st.aT x) (hh:qI st st'):dJ P st' T s x=dJ P st T s x:=by
 unfold dJ;simp only[sV hx hh];cases s
 case own=>simp only[hh _ _ hs.own]
 case v y =>
  cases y
  case slice p n c=>cases p<;>cases n<;>cases c<;>rfl
  all_goals rfl
 all_goals rfl
theorem CY {T:Nat} {s x:AV} (hs:mN st.aT s) (hx:mN st.aT x) (hh:qI st st'):oC P st' T s x=oC P st T s x:=by
 unfold oC;rw[sV hx hh];cases dW P T with
 | none=>rfl
 | some t=>cases aX st x with
   | none=>rfl
   | some mn =>
     cases s<;>try rfl
     case vw s g o n =>
      cases o with
      | zero=>simp only[hh _ _ hs.vw]
      | succ o=>rfl
theorem IZ {T:Nat} {x:AV} (hx:mN st.aT x) (hh:qI st st'):sE P st' T x=sE P st T x:=by
 unfold sE;cases dW P T with
 | none=>rfl
 | some t =>
   cases x<;>try rfl
   case vw s g o n=>simp only[hh _ _ hx.vw]
   case v y =>
    cases y<;>try rfl
    rename_i p n c;cases p<;>cases n<;>cases c<;>rfl
   case sl n cs=>cases n<;>rfl
theorem Ue {T:Nat} {x:AV} {lo:Option Operand} {hi mx:Operand} (hx:∀s g,x=.own s g→st'.heap s g=st.heap s g) (hl:∀p,lo=some p→st'.ev p=st.ev p) (h1:st'.ev hi=st.ev hi) (h2:st'.ev mx=st.ev mx):Bb P st' T x lo hi mx=Bb P st T x lo hi mx:=by
 unfold Bb;rw[h1,h2];cases dW P T with
 | none=>rfl
 | some t =>
   simp only
   cases lo with
   | none =>
     simp only
     cases x<;>try rfl
     case own s g=>simp only[hx s g rfl]
     case v y =>
      cases y<;>try rfl
      rename_i p n c;cases p<;>cases n<;>cases c<;>rfl
   | some l =>
     simp only[hl l rfl];cases x<;>try rfl
     case own s g=>simp only[hx s g rfl]
     case v y =>
      cases y<;>try rfl
      rename_i p n c;cases p<;>cases n<;>cases c<;>rfl
theorem PM {T:Nat} {m x:AV} {ok:Bool} (hm:mN st.aT m) (hh:qI st st'):Tl P st' T m x ok=Tl P st T m x ok:=by
 unfold Tl;cases m<;>try rfl
 simp only[hh _ _ hm.mp]
theorem CZ {T:Nat} {m x y:AV} (hm:mN st.aT m) (hh:qI st st'):tZ P st' T m x y=tZ P st T m x y:=by
 unfold tZ;cases m<;>try rfl
 simp only[hh _ _ hm.mp]
theorem JA {r:AV} {dst:Option Nat} (hc:∀d,dst=some d→st'.aT d=st.aT d):jC r st' dst=jC r st dst:=by
 unfold jC;cases dst with
 | none=>rfl
 | some d=>simp only[hc d rfl]
theorem yM (hp:CW st) {g:Nat} {args:List AV} {dst:Option Nat} (hx:∀x∈args,mN st.aT x) (hh:qI st st') (hc:∀d,dst=some d→st'.aT d=st.aT d):aM call g args st' dst=aM call g args st dst:=by
 unfold aM;have:args.map (fO st')=args.map (fO st):=List.map_congr_left fun x Jq=>Zm hp (hx x Jq) hh
 rw[this];have h2:∀r,jC r st' dst=jC r st dst:=fun r=>JA hc
 simp only[h2]
theorem JB (hp:CW st) {g:Nat} {args:List AV} {dst:Option Nat} (hx:∀x∈args,mN st.aT x) (hh:qI st st') (hc:∀d,dst=some d→st'.aT d=st.aT d):lQ call g args st' dst=lQ call g args st dst:=by
 unfold lQ;split
 ·rename_i s k rest;rw[hh _ _ (hx _ (List.mem_cons_self ..)).own];cases dst with
  | none=>rfl
  | some d=>simp only[hc d rfl]
 ·rw[yM hp hx hh hc]
theorem DA (hp:CW st) {g:Nat} {args:List AV} {dst:Option Nat} (hx:∀x∈args,mN st.aT x) (hh:qI st st') (hc:∀d,dst=some d→st'.aT d=st.aT d):fG call g args st' dst=fG call g args st dst:=by
 have h1:=yM (call:=call) (g:=g) hp hx hh hc
 have:args.map (fO st')=args.map (fO st):=List.map_congr_left fun x Jq=>Zm hp (hx x Jq) hh
 unfold fG;rw[this,h1];have h2:∀r s k,Em r st' dst s k=Em r st dst s k:=fun r s k=>by
  unfold Em;cases dst with
  | none=>cases r<;>rfl
  | some d=>cases r<;>simp only[hc d rfl]
 simp only[h2]
theorem Pm {parts:List (Nat × Operand)} (h:∀p∈parts,st'.ev p.2=st.ev p.2):(parts.map fun p=>(p.1,st'.ev p.2))=parts.map fun p=>(p.1,st.ev p.2) :=
 List.map_congr_left fun p hp=>by rw[h p hp]
theorem Wl {parts:List (Nat × Operand)} (h:∀p∈parts,st'.ev p.2=st.ev p.2):(parts.all fun p=>(st'.ev p.2).jD)=parts.all fun p=>(st.ev p.2).jD:=by
 induction parts with
 | nil=>rfl
 | cons p ps ih =>
   simp only[List.all_cons];rw[h p (by simp),ih fun q hq=>h q (by simp[hq])]
theorem H8 {aT:Nat→Nat} {x:AV} {g:Nat} {mG:List AV} (h:HA x=some (g,mG)) (hx:mN aT x):∀c∈mG,mN aT c:=by
 unfold HA at h;split at h
 ·split at h
  ·simp only[Option.some.injEq,Prod.mk.injEq] at h;obtain⟨rfl,rfl⟩:=h
   simp
  ·cases h
 ·simp only[Option.some.injEq,Prod.mk.injEq] at h;obtain⟨rfl,rfl⟩:=h
  exact hx.rW
 ·cases h
variable [Ext]
theorem DB (hp:CW st) {c:Call} {dst:Option Nat} (he:∀p∈c.operands,st'.ev p=st.ev p) (hi:∀p∈c.operands,mN st.aT (st.ev p)) (hh:qI st st') (hc:∀d,dst=some d→st'.aT d=st.aT d) :
 iT P call c dst st'=iT P call c dst st:=by
 have tR:∀p∈c.args.toList,p∈c.operands:=fun p hp=>by simp[Call.operands];right;simpa using hp
 unfold iT;split
 ·rename_i f hf;have hfo:f∈c.operands:=by simp[Call.operands,hf]
  have hm:c.args.toList.map st'.ev=c.args.toList.map st.ev:=List.map_congr_left fun p hp=>he p (tR p hp)
  have hia:∀x∈c.args.toList.map st.ev,mN st.aT x:=fun x hx=>by
   obtain⟨p,hp,rfl⟩:=List.mem_map.1 hx
   exact hi p (tR p hp)
  unfold oD;rw[hm];split
  ·split
   ·exact JB hp hia hh hc
   ·split
    ·exact DA hp hia hh hc
    ·exact yM hp hia hh hc
  ·rw[he f hfo];cases h:HA (st.ev f) with
   | none=>rfl
   | some gc =>
     obtain⟨g,mG⟩:=gc
     refine yM hp (fun x hx=>?_) hh hc
     rcases List.mem_append.1 hx with hx|hx
     ·exact hia x hx
     ·exact H8 h (hi f hfo) x hx
 ·split
  ·rename_i x T hx hT;have hxo:=tR x (by rw[hx];simp)
   rw[he x hxo,sV (hi x hxo) hh]
  ·rfl
 ·split
  ·rename_i x y hx;rw[he x (tR x (by rw[hx];simp)),he y (tR y (by rw[hx];simp))]
  ·rfl
 ·split
  ·rename_i x y hx;rw[he x (tR x (by rw[hx];simp)),he y (tR y (by rw[hx];simp))]
  ·rfl
 ·cases dst with
  | none=>rfl
  | some d =>
  simp only[cT];split
  ·rename_i s x T T' hx hT
   have hso:=tR s (by rw[hx];simp)
   have hxo:=tR x (by rw[hx];simp)
   have hn:Ha P st' T (st'.ev s) (st'.ev x)=Ha P st T (st.ev s) (st.ev x):=by simp only[Ha,he s hso,he x hxo,sV (hi x hxo) hh]
   rw[hn,he s hso,he x hxo,CX (hi s hso) (hi x hxo) hh,CY (hi s hso) (hi x hxo) hh,hc d rfl]
  ·rfl
 ·split
  ·rename_i x T hx hT;have hxo:=tR x (by rw[hx];simp)
   rw[he x hxo,IZ (hi x hxo) hh]
  ·rfl
 ·rfl
theorem PN (hp:CW st) {o:Oper} (he:∀p∈o.op.operands,st'.ev p=st.ev p) (hi:∀p∈o.op.operands,mN st.aT (st.ev p)) (hh:qI st st') (hc:∀d,o.dst=some d→st'.aT d=st.aT d) :
 dT P call o st'=dT P call o st:=by
 obtain⟨dst,op,type,pos,after,guard⟩:=o
 cases op<;>simp only[dT,iX,Op.operands] at *
 case call c=>exact DB hp he hi hh hc
 case alloc T=>cases dst with
  | none=>rfl
  | some d=>simp only[cT,hc d rfl]
 case box T x=>cases dst with
  | none=>rfl
  | some d=>simp only[cT,hc d rfl,he x (by simp)]
 case buildSlice T n parts =>
  have Ap:∀p∈parts.toList,st'.ev p.2=st.ev p.2:=fun p hp=>he p.2 (by simp;exact⟨p.1,by simpa using hp⟩)
  rw[Pm Ap,Wl Ap];cases dst with
  | none=>rfl
  | some d=>simp only[cT,hc d rfl]
 case makeSlice T l c =>
  rw[he l (by simp),he c (by simp)]
  cases dst with
  | none=>rfl
  | some d=>simp only[cT,hc d rfl]
 case makeMap T r =>
  cases r with
  | none=>cases dst with
    | none=>rfl
    | some d=>simp only[cT,hc d rfl]
  | some r=>rfl
 case mapUpdate T m x y=>rw[he m (by simp),he x (by simp),he y (by simp),CZ (hi m (by simp)) hh]
 case lookup T m x ok=>rw[he m (by simp),he x (by simp),PM (hi m (by simp)) hh]
 case store T x y=>rw[he x (by simp),he y (by simp),IY (hi x (by simp)) hh]
 case move x=>rw[he x (by simp)]
 case assign x=>rw[he x (by simp)]
 case pick c x y=>rw[he c (by simp),he x (by simp),he y (by simp)]
 case binOp op T x y yT=>rw[he x (by simp),he y (by simp)]
 case unOp op T x=>rw[he x (by simp)]
 case convert s d x=>rw[he x (by simp)]
 case nilCheck x=>rw[he x (by simp)]
 case field T x f=>rw[he x (by simp)]
 case fieldAddr T x f=>rw[he x (by simp)]
 case indexAddr T x i=>rw[he x (by simp),he i (by simp),Sj (hi x (by simp)) hh]
 case load T x=>rw[he x (by simp),IW (hi x (by simp)) hh]
 case extract t i=>rw[he t (by simp)]
 case build T parts =>
  have Ap:∀p∈parts.toList,st'.ev p.2=st.ev p.2:=fun p hp=>he p.2 (by simp;exact⟨p.1,by simpa using hp⟩)
  unfold iW;rw[Pm Ap,Wl Ap]
 case slice T x lo Db mx =>
  cases mx with
  | some m =>
    cases Db with
    | none=>rfl
    | some h =>
      simp only
      rw[he x (by simp),Ue (fun s g hx=>by have:=hi x (by simp);rw[hx] at this;exact hh _ _ this.own) (fun p hp=>he p (by simp[hp])) (he h (by simp)) (he m (by simp))]
  | none =>
    simp only
    rw[he x (by simp),IX (hi x (by simp)) hh (fun p hp=>he p (by simp[hp])) (fun p hp=>he p (by simp[hp]))]
 case makeFunc fn first captured =>
  cases fn with
  | func f =>
    simp only
    have:captured.toList.map st'.ev=captured.toList.map st.ev:=List.map_congr_left fun p hp=>he p (by simp;right;simpa using hp)
    rw[this]
  | _=>rfl
theorem JC {ops:Array Oper} {o:Oper} (zK:mP ops o=0∨mP ops o=2) (he:∀p∈o.op.operands,st'.ev p=st.ev p) (hc:∀d,o.dst=some d→st'.aT d=st.aT d) :
 dT P call o st'=dT P call o st:=by
 obtain⟨dst,op,type,pos,after,guard⟩:=o
 cases op<;>simp only[dT,iX,Op.operands,mP] at *
 case call c =>
  exfalso
  obtain⟨callee,args,tQ⟩:=c
  cases callee with
  | builtin b=>cases b<;>simp at zK;split at zK<;>simp at zK
  | value f=>cases f<;>simp at zK;split at zK<;>(try split at zK)<;>(try split at zK)<;>simp at zK
  | _=>simp at zK
 case alloc T=>cases dst with
  | none=>rfl
  | some d=>simp only[cT,hc d rfl]
 case box T x=>cases dst with
  | none=>rfl
  | some d=>simp only[cT,hc d rfl,he x (by simp)]
 case buildSlice T n parts =>
  have Ap:∀p∈parts.toList,st'.ev p.2=st.ev p.2:=fun p hp=>he p.2 (by simp;exact⟨p.1,by simpa using hp⟩)
  rw[Pm Ap,Wl Ap];cases dst with
  | none=>rfl
  | some d=>simp only[cT,hc d rfl]
 case makeSlice T l c =>
  rw[he l (by simp),he c (by simp)]
  cases dst with
  | none=>rfl
  | some d=>simp only[cT,hc d rfl]
 case makeMap T r =>
  cases r with
  | none=>cases dst with
    | none=>rfl
    | some d=>simp only[cT,hc d rfl]
  | some r=>rfl
 case mapUpdate T m x y=>simp at zK
 case lookup T m x ok=>simp at zK
 case store T x y=>simp at zK
 case move x=>rw[he x (by simp)]
 case assign x=>rw[he x (by simp)]
 case pick c x y=>rw[he c (by simp),he x (by simp),he y (by simp)]
 case binOp op T x y yT=>rw[he x (by simp),he y (by simp)]
 case unOp op T x=>rw[he x (by simp)]
 case convert s d x=>rw[he x (by simp)]
 case nilCheck x=>rw[he x (by simp)]
 case field T x f=>rw[he x (by simp)]
 case fieldAddr T x f=>rw[he x (by simp)]
 case indexAddr T x i=>simp at zK
 case load T x=>simp at zK
 case extract t i=>rw[he t (by simp)]
 case build T parts =>
  have Ap:∀p∈parts.toList,st'.ev p.2=st.ev p.2:=fun p hp=>he p.2 (by simp;exact⟨p.1,by simpa using hp⟩)
  unfold iW;rw[Pm Ap,Wl Ap]
 case slice T x lo Db mx=>simp at zK
 case makeFunc fn first captured =>
  cases fn with
  | func f =>
    simp only
    have:captured.toList.map st'.ev=captured.toList.map st.ev:=List.map_congr_left fun p hp=>he p (by simp;right;simpa using hp)
    rw[this]
  | _=>rfl
end
end Go.Ab
end
section
namespace Go.Ab
open Classical
section
variable {P:Program} {call:Nat→List AV→Option AV} {st st':St} {ops:Array Oper}
theorem Pn {r:AV} {dst:Option Nat} {e:rX} (h:jC r st dst=some e):e.dst=dst∧e.dS=none∧∀d x,e.new=some (d,x)→dst=some d:=by
 unfold jC at h;split at h
 ·simp only[Option.some.injEq] at h;subst h;exact⟨rfl,rfl,fun d x h=>by simp at h⟩
 ·cases dst with
  | none=>cases h
  | some d=>simp only[Option.some.injEq] at h;subst h;exact⟨rfl,rfl,fun d x h=>by simp at h;rw[h.1]⟩
theorem yN {g:Nat} {args:List AV} {dst:Option Nat} {e:rX} (h:aM call g args st dst=some e):e.dst=dst∧e.dS=none∧∀d x,e.new=some (d,x)→dst=some d:=by
 unfold aM at h;split at h
 ·cases hc:call g args with
  | none=>simp[hc,cT] at h
  | some r=>simp only[hc,cT] at h;exact Pn h
 ·split at h
  ·rename_i xs _;cases hc:call g xs with
   | none=>simp[hc,cT] at h
   | some r =>
     simp only[hc,cT] at h;split at h
     ·exact Pn h
     ·cases h
  ·cases h
theorem Po {g:Nat} {args:List AV} {dst:Option Nat} {e:rX} (h:lQ call g args st dst=some e):e.dst=dst∧(∀d x,e.new=some (d,x)→dst=some d)∧∀s k x,e.dS=some (s,k,x)→args.head? = some (.own s k):=by
 unfold lQ at h;split at h
 ·split at h
  ·split at h
   ·split at h
    ·cases dst with
     | none=>cases h
     | some d =>
       simp only[Option.some.injEq] at h;subst h;exact⟨rfl,fun d x h=>by simp at h;rw[h.1],fun s k x h=>by simp at h;simp[h.1,h.2.1]⟩
    ·simp only[Option.some.injEq] at h;subst h;exact⟨rfl,fun d x h=>by simp at h,fun s k x h=>by simp at h;simp[h.1,h.2.1]⟩
    ·cases h
   ·cases h
  ·cases h
 ·split at h
  ·obtain⟨h1,h2,h3⟩:=yN h
   exact⟨h1,h3,fun s k x h=>by rw[h2] at h;cases h⟩
  ·cases h
theorem DC {g:Nat} {args:List AV} {dst:Option Nat} {e:rX} (h:fG call g args st dst=some e):e.dst=dst∧(∀d x,e.new=some (d,x)→dst=some d)∧∀s k x,e.dS=some (s,k,x)→∃y∈args,y=.own s k∨∃cs,y=.agg cs∧.own s k∈cs:=by
 unfold fG at h;split at h
 ·rename_i s k hk;split at h
  ·split at h
   ·rename_i xs _;cases hc:call g xs with
    | none=>simp[hc,cT] at h
    | some r =>
      simp only[hc,cT] at h;have hu:e.dS=some (s,k,none)∧e.dst=dst∧∀d x,e.new=some (d,x)→dst=some d:=by
       rcases Pl h with ⟨_,rfl⟩|⟨_,e1,sz,n,cs,d,rfl,rfl,_,rfl⟩
       ·exact⟨rfl,rfl,fun d x h=>by simp at h⟩
       ·exact⟨rfl,rfl,fun d x h=>by simp at h;rw[h.1]⟩
      ·refine⟨hu.2.1,hu.2.2,fun s' k' x h=>?_⟩
       rw[hu.1] at h;simp only[Option.some.injEq,Prod.mk.injEq] at h;obtain⟨rfl,rfl,_⟩:=h
       have hm:(s,k)∈args.flatMap jE:=by rw[hk];simp
       obtain⟨y,hy,hyk⟩:=List.mem_flatMap.1 hm
       refine⟨y,hy, ?_⟩
       have key:∀c,(s,k)∈iB c→c=.own s k:=fun c hc=>by
        cases c<;>simp[iB] at hc
        obtain⟨rfl,rfl⟩:=hc
        rfl
       cases y with
       | agg cs =>
         obtain⟨c,hc,hck⟩:=List.mem_flatMap.1 (show (s,k)∈cs.flatMap iB from hyk)
         exact .inr ⟨cs,rfl,by rw[← key c hck];exact hc⟩
       | own a b=>exact .inl (key _ hyk)
       | _=>simp[jE,iB] at hyk
   ·cases h
  ·cases h
 ·obtain⟨h1,h2,h3⟩:=yN h
  exact⟨h1,h3,fun s k x h=>by rw[h2] at h;cases h⟩
theorem oW (e:rX) (t:Nat):(e.apply st).env t=if e.dst=some t then e.val else st.env t:=by
 have h2:∀(s1:St),(s1.put e.dst e.val).env t=if e.dst=some t then e.val else s1.env t:=fun s1=>by
  cases hd:e.dst with
  | none=>simp[St.put]
  | some d =>
    simp only[St.put,Option.some.injEq];by_cases h:t=d
    ·subst h;simp
    ·rw[if_neg h,if_neg (fun h'=>h h'.symm)]
 unfold rX.apply;rw[h2];cases e.dS<;>cases e.new<;>rfl
theorem lP (e:rX) (s:Nat):(e.apply st).aT s=match e.new with
 | some (d,es)=>if s=d then st.aT d+es.length else st.aT s
 | none=>st.aT s:=by
 unfold rX.apply;rw[ZJ];cases e.dS<;>cases e.new<;>rfl
theorem tF (e:rX) (s g:Nat):(e.apply st).heap s g=match e.new with
 | some (d,es)=>if s=d∧st.aT d≤g∧g-st.aT d<es.length then es[g-st.aT d]? else (match e.dS with
   | some (s0,g0,y)=>if s=s0∧g=g0 then y else st.heap s g
   | none=>st.heap s g)
 | none=>(match e.dS with
   | some (s0,g0,y)=>if s=s0∧g=g0 then y else st.heap s g
   | none=>st.heap s g):=by
 unfold rX.apply;rw[Wx];cases e.dS<;>cases e.new<;>rfl
theorem aAr {o:Oper} (h:∀j want d,o.guard=some (j,want)→(ops[j]?).bind (·.dst)=some d→st'.env d=st.env d):gv ops st' o.guard=gv ops st o.guard:=by
 unfold gv;cases hg:o.guard with
 | none=>rfl
 | some jw =>
   obtain⟨j,want⟩:=jw
   simp only
   cases hd:(ops[j]?).bind (·.dst) with
   | none=>rfl
   | some d=>simp only[h j want d hg hd]
theorem aAs {a b:St} (h1:a.env=b.env) (h2:a.heap=b.heap) (h3:a.aT=b.aT):a=b:=by
 cases a;cases b;simp_all
theorem Zn {T:Nat} {p x:AV} {u:Nat × Nat × oB × Nat} (h:oC P st T p x=some u):∃n,p=.vw u.1 u.2.1 0 n:=by
 unfold oC at h;split at h
 ·split at h
  ·split at h
   ·simp only[Option.some.injEq] at h;subst h;exact⟨_,rfl⟩
   ·cases h
  ·cases h
 ·cases h
theorem H9 {T:Nat} {p:AV} {u:Nat × Nat × oB} (h:sE P st T p=some (some u)):∃o n,p=.vw u.1 u.2.1 o n:=by
 unfold sE at h;split at h
 ·split at h
  ·split at h
   ·simp only[Option.some.injEq] at h;subst h;exact⟨_,_,rfl⟩
   ·cases h
  ·cases h
 ·simp at h
 ·simp at h
 ·cases h
variable [Ext]
theorem PO {o:Oper} {e:rX} (h:dT P call o st=some e) :
 e.dst=o.dst∧(∀d x,e.new=some (d,x)→o.dst=some d)∧(∀s g x,e.dS=some (s,g,x)→mP ops o=3∧∃p∈o.op.operands,(∃off,st.ev p=.ptr s g off)∨st.ev p=.own s g∨st.ev p=.mp s g∨(∃cs,st.ev p=.agg cs∧.own s g∈cs)∨∃o n,st.ev p=.vw s g o n):=by
 obtain⟨dst,op,type,pos,after,guard⟩:=o
 have val:∀x:Option AV,(x.map fun y=>({ dst:=dst,val:=y }:rX))=some e→e.dst=dst∧(∀d x,e.new=some (d,x)→dst=some d)∧(∀s g x,e.dS≠some (s,g,x)):=fun x h=>by
  cases x with
  | none=>simp at h
  | some y=>simp at h;subst h;exact⟨rfl,fun d x h=>by simp at h,fun s g x h=>by simp at h⟩
 cases op
 case call c =>
  simp only[dT] at h;unfold iT at h;split at h
  ·rename_i f hc;unfold oD at h;split at h
   ·rename_i g;split at h
    ·rename_i hmv;obtain⟨h1,h2,h3⟩:=Po h
     refine⟨h1,h2,fun s k x hu=>?_⟩
     have hh:=h3 s k x hu
     obtain⟨callee,args,tQ⟩:=c
     simp only at hc hh
     subst hc;cases hl:args.toList with
     | nil=>rw[hl] at hh;simp at hh
     | cons p ps =>
       rw[hl] at hh;simp only[List.map_cons,List.head?_cons,Option.some.injEq] at hh;refine⟨?_,p, ?_,.inr (.inl hh)⟩
       ·simp only[mP,hl,hmv];cases p with
        | const v=>simp[St.ev] at hh
        | _=>simp
       simp only[Op.operands,Call.operands];simp
       right
       rw[← Array.mem_toList_iff,hl];simp
    ·split at h
     ·rename_i heat;obtain⟨h1,h2,h3⟩:=DC h
      refine⟨h1,h2,fun s k x hu=>?_⟩
      obtain⟨y,hy,hyo⟩:=h3 s k x hu
      obtain⟨callee,args,tQ⟩:=c
      simp only at hc hy
      subst hc;refine⟨by simp[mP,heat], ?_⟩
      obtain⟨p,hp,rfl⟩:=List.mem_map.1 hy
      refine⟨p, ?_, ?_⟩
      ·simp only[Op.operands,Call.operands];simp
       right
       simpa using hp
      ·rcases hyo with h|⟨cs,h,hm⟩
       ·exact .inr (.inl h)
       ·exact .inr (.inr (.inr (.inl ⟨cs,h,hm⟩)))
     ·obtain⟨h1,h2,h3⟩:=yN h
      exact⟨h1,h3,fun s g x h=>by rw[h2] at h;cases h⟩
   ·split at h
    ·obtain⟨h1,h2,h3⟩:=yN h
     exact⟨h1,h3,fun s g x h=>by rw[h2] at h;cases h⟩
    ·cases h
  ·split at h
   ·split at h
    ·simp only[Option.some.injEq] at h;subst h;exact⟨rfl,fun d x h=>by simp at h,fun s g x h=>by simp at h⟩
    ·cases h
   ·cases h
  ·split at h
   ·split at h
    ·simp only[Option.some.injEq] at h;subst h;exact⟨rfl,fun d x h=>by simp at h,fun s g x h=>by simp at h⟩
    ·cases h
   ·cases h
  ·split at h
   ·split at h
    ·simp only[Option.some.injEq] at h;subst h;exact⟨rfl,fun d x h=>by simp at h,fun s g x h=>by simp at h⟩
    ·cases h
   ·cases h
  ·rename_i hc;cases dst with
   | none=>simp[cT] at h
   | some d =>
     simp only[cT] at h;split at h
     ·rename_i s x T T' hx hT
      split at h
      ·split at h
       ·cases nK:oC P st T (st.ev s) (st.ev x) with
        | none=>simp[nK] at h
        | some u =>
        simp only[nK,Option.map_some,Option.some.injEq] at h;subst h;refine⟨rfl,nofun,fun s' g' x' hu=>?_⟩
        simp only[Option.some.injEq,Prod.mk.injEq] at hu;obtain⟨rfl,rfl,rfl⟩:=hu
        obtain⟨n0,Ad⟩:=Zn nK
        refine⟨?_,s, ?_,.inr (.inr (.inr (.inr ⟨0,n0,Ad⟩)))⟩
        ·obtain⟨callee,args,tQ⟩:=c
         simp only at hc hx
         subst hc;simp only[mP,hx];cases s with
         | const v =>
           simp[St.ev] at Ad
         | _=>rfl
        ·simp only[Op.operands,Call.operands,hc];simp
         rw[← Array.mem_toList_iff,hx];simp
       split at h
       ·simp only[Option.some.injEq] at h;subst h;exact⟨rfl,nofun,nofun⟩
       cases nK:dJ P st T (st.ev s) (st.ev x) with
       | none=>simp[nK] at h
       | some ur =>
         obtain⟨u,r⟩:=ur
         simp only[nK,Option.some.injEq] at h;subst h;refine⟨rfl,fun d x h=>by simp at h;rw[h.1],fun s' g' x' hu=>?_⟩
         simp only[Option.map_eq_some_iff] at hu;obtain⟨⟨s2,g2⟩,hu1,hu2⟩:=hu
         simp only[Prod.mk.injEq] at hu2;obtain⟨rfl,rfl,rfl⟩:=hu2
         subst hu1;have Ad:st.ev s=.own s2 g2:=by
          unfold dJ at nK;split at nK
          ·split at nK
           ·split at nK
            ·split at nK
             ·split at nK<;>simp at nK
             ·rename_i s3 g3 hs3;split at nK
              ·split at nK
               ·simp only[Option.some.injEq,Prod.mk.injEq] at nK;obtain⟨⟨rfl,rfl⟩,_⟩:=nK
                exact hs3
               ·cases nK
              ·cases nK
             ·split at nK<;>simp at nK
             ·cases nK
            ·cases nK
           ·cases nK
          ·cases nK
         refine⟨?_,s, ?_,.inr (.inl Ad)⟩
         ·obtain⟨callee,args,tQ⟩:=c
          simp only at hc hx
          subst hc;simp only[mP,hx];cases s with
          | const v =>
            simp[St.ev] at Ad
          | _=>rfl
         ·simp only[Op.operands,Call.operands,hc];simp
          rw[← Array.mem_toList_iff,hx];simp
      ·cases h
     ·cases h
  ·rename_i hc;split at h
   ·rename_i x T hx hT;cases nK:sE P st T (st.ev x) with
    | none=>simp[nK] at h
    | some u =>
      simp only[nK,Option.map_some,Option.some.injEq] at h;subst h;refine⟨rfl,nofun,fun s' g' x' hu=>?_⟩
      simp only[Option.map_eq_some_iff,Prod.mk.injEq] at hu;obtain⟨p,rfl,rfl,rfl,_⟩:=hu
      obtain⟨o,n,Ad⟩:=H9 nK
      refine⟨?_,x, ?_,.inr (.inr (.inr (.inr ⟨o,n,Ad⟩)))⟩
      ·obtain⟨callee,args,tQ⟩:=c
       simp only at hc
       subst hc;rfl
      ·simp only[Op.operands,Call.operands,hc];simp
       rw[← Array.mem_toList_iff,hx];simp
   ·cases h
  ·cases h
 case store T x y =>
  simp only[dT] at h;cases hs:qB P st T (st.ev x) (st.ev y) with
  | none=>simp[hs] at h
  | some u =>
    obtain⟨s,g,e'⟩:=u
    simp only[hs,Option.map_some,Option.some.injEq] at h;subst h;refine⟨rfl,fun d x h=>by simp at h,fun s' g' x' hu=>⟨rfl,x,by simp[Op.operands],.inl ?_⟩⟩
    simp only[Option.some.injEq,Prod.mk.injEq] at hu;obtain⟨rfl,rfl,_⟩:=hu
    unfold qB at hs;split at hs
    ·rename_i s1 g1 o1 hp;refine⟨o1, ?_⟩
     rw[hp];split at hs
     ·split at hs
      ·split at hs
       ·split at hs
        ·simp only[Option.some.injEq,Prod.mk.injEq] at hs;rw[hs.1,hs.2.1]
        ·cases hs
       ·split at hs
        ·simp only[Option.some.injEq,Prod.mk.injEq] at hs;rw[hs.1,hs.2.1]
        ·cases hs
       ·cases hs
      ·cases hs
     ·cases hs
    ·cases hs
 case alloc T =>
  simp only[dT] at h;cases dst with
  | none=>simp[cT] at h
  | some d=>cases hz:eI P T with
    | none=>simp[hz,cT] at h
    | some z=>simp only[hz,cT,Option.some.injEq] at h;subst h;exact⟨rfl,fun d x h=>by simp at h;rw[h.1],fun s g x h=>by simp at h⟩
 case box T x =>
  simp only[dT] at h;cases dst with
  | none=>simp[cT] at h
  | some d =>
    simp only[cT] at h;split at h
    ·simp only[Option.some.injEq] at h;subst h;exact⟨rfl,fun d x h=>by simp at h;rw[h.1],fun s g x h=>by simp at h⟩
    ·cases h
 case buildSlice T n parts =>
  simp only[dT] at h;cases dst with
  | none=>simp[cT] at h
  | some d=>cases hs:dW P T with
    | none=>simp[hs,cT] at h
    | some t=>cases hz:eI P t.1 with
      | none=>simp[hs,hz,cT] at h
      | some z =>
        simp only[hs,hz,cT] at h;split at h
        ·cases hf:gS (fun i=>some (i * t.2.1,t.2.1)) ((List.range n).flatMap fun _=>z.map .v) (parts.toList.map fun p=>(p.1,st.ev p.2)) with
         | none=>simp[hf] at h
         | some cs=>simp only[hf,Option.some.injEq] at h;subst h;exact⟨rfl,fun d x h=>by simp at h;rw[h.1],fun s g x h=>by simp at h⟩
        ·cases h
 case makeSlice T l c =>
  simp only[dT] at h;cases dst with
  | none=>simp[cT] at h
  | some d=>cases hs:dW P T with
    | none=>simp[hs,cT] at h
    | some t=>cases hz:eI P t.1 with
      | none=>simp[hs,hz,cT] at h
      | some z =>
        simp only[hs,hz,cT] at h;split at h
        ·split at h
         ·simp only[Option.some.injEq] at h;subst h;exact⟨rfl,fun d x h=>by simp at h;rw[h.1],fun s g x h=>by simp at h⟩
         ·cases h
        ·cases h
 case makeMap T r =>
  cases r with
  | none =>
    simp only[dT] at h;cases dst with
    | none=>simp[cT] at h
    | some d=>simp only[cT,Option.some.injEq] at h;subst h;exact⟨rfl,fun d x h=>by simp at h;rw[h.1],fun s g x h=>by simp at h⟩
  | some r =>
    simp only[dT] at h;obtain⟨h1,h2,h3⟩:=val _ h
    exact⟨h1,h2,fun s g x hu=>absurd hu (h3 s g x)⟩
 case mapUpdate T m x y =>
  simp only[dT] at h;cases hs:tZ P st T (st.ev m) (st.ev x) (st.ev y) with
  | none=>simp[hs] at h
  | some u =>
    obtain⟨s,g,e'⟩:=u
    simp only[hs,Option.map_some,Option.some.injEq] at h;subst h;refine⟨rfl,fun d x h=>by simp at h,fun s' g' x' hu=>⟨rfl,m,by simp[Op.operands],.inr (.inr (.inl ?_))⟩⟩
    simp only[Option.some.injEq,Prod.mk.injEq] at hu;obtain⟨rfl,rfl,_⟩:=hu
    unfold tZ at hs;split at hs
    ·rename_i s1 g1 hp;rw[hp];split at hs
     ·split at hs
      ·simp only[Option.some.injEq,Prod.mk.injEq] at hs;rw[hs.1,hs.2.1]
      ·cases hs
     ·cases hs
    ·cases hs
 all_goals
  simp only[dT] at h;obtain⟨h1,h2,h3⟩:=val _ h
  exact⟨h1,h2,fun s g x hu=>absurd hu (h3 s g x)⟩
noncomputable def sB (P:Program) (call:Nat→List AV→Option AV) (ops:Array Oper) (o:Oper) (st:St):Option rX :=
 match gv ops st o.guard with
 | some b=>if b=true then dT P call o st else some { dst:=o.dst,val:=.v undef }
 | none=>none
theorem Fo (o:Oper):cI P call ops o st=(sB P call ops o st).map fun e=>e.apply st:=by
 unfold cI sB;cases gv ops st o.guard with
 | none=>rfl
 | some b=>cases b<;>rfl
theorem pE {o:Oper} {e:rX} (h:sB P call ops o st=some e) :
 e.dst=o.dst∧(∀d x,e.new=some (d,x)→o.dst=some d)∧(∀s g x,e.dS=some (s,g,x)→mP ops o=3∧∃p∈o.op.operands,(∃off,st.ev p=.ptr s g off)∨st.ev p=.own s g∨st.ev p=.mp s g∨(∃cs,st.ev p=.agg cs∧.own s g∈cs)∨∃o n,st.ev p=.vw s g o n):=by
 unfold sB at h;split at h
 ·split at h
  ·exact PO h
  ·simp only[Option.some.injEq] at h;subst h;exact⟨rfl,fun d x h=>by simp at h,fun s g x h=>by simp at h⟩
 ·cases h
theorem Uf (hp:CW st) {x y:Oper} {ex:rX} (nK:sS ops x y=true∨sS ops y x=true) (Mb:∀t,mN st.aT (st.env t)) (hx:sB P call ops x st=some ex) :
 sB P call ops y (ex.apply st)=sB P call ops y st:=by
 obtain⟨sd,sn,su⟩:=pE hx
 have z7:(∀d,x.dst=some d→d ∉ y.looksAt ops)∧(∀d,x.dst=some d→y.dst≠some d):=by
  rcases nK with h|h
  ·simp only[sS,Bool.and_eq_true] at h;obtain⟨h1,h2,_⟩:=Oper.apart_spec h.1
   exact⟨h1,h2⟩
  ·simp only[sS,Bool.and_eq_true] at h;obtain⟨_,h2,h3⟩:=Oper.apart_spec h.1
   exact⟨h3,fun d hd hy=>h2 d hy hd⟩
 have henv:∀t,t∈y.looksAt ops→(ex.apply st).env t=st.env t:=fun t ht=>by
  rw[oW,if_neg];intro h;rw[sd] at h;exact z7.1 t h ht
 have CA:∀p∈y.op.operands,(ex.apply st).ev p=st.ev p:=fun p hp=>by
  cases p with
  | tmp t=>exact henv t (by unfold Oper.looksAt;exact List.mem_append_left _ (List.mem_filterMap.2 ⟨.tmp t,by simpa using hp,rfl⟩))
  | _=>rfl
 have hgv:gv ops (ex.apply st) y.guard=gv ops st y.guard:=aAr fun j want d hg hd=>henv d (by
  unfold Oper.looksAt;apply List.mem_append_right
  rw[hg];simp[hd])
 have hcnt:∀d,y.dst=some d→(ex.apply st).aT d=st.aT d:=fun d hd=>by
  rw[lP];split
  ·rename_i d' z hn
   have:=sn d' z hn
   rw[if_neg];rintro rfl
   exact z7.2 d this hd
  ·rfl
 have Vc:∀p∈y.op.operands,mN st.aT (st.ev p):=fun p hp=>by
  cases p with
  | tmp t=>exact Mb t
  | const v=>exact⟨⟨fun _ _=>False,fun _ _=>undef,st.aT⟩,v,rfl,.v v⟩
  | global g=>exact⟨⟨fun _ _=>False,fun _ _=>undef,st.aT⟩,_,rfl,.v _⟩
  | func f=>exact⟨⟨fun _ _=>False,fun _ _=>undef,st.aT⟩,_,rfl,.v _⟩
 have qK:dT P call y (ex.apply st)=dT P call y st:=by
  by_cases h3:mP ops x=3
  ·refine JC (ops:=ops) ?_ CA hcnt
   have hle:mP ops y=0∨mP ops y=1∨mP ops y=2∨mP ops y=3∨mP ops y=4:=by
    unfold mP;split<;>(try split)<;>(try split)<;>(try split)<;>simp
   rcases nK with h|h<;>simp only[sS,Bool.and_eq_true,h3] at h<;>rcases hle with e|e|e|e|e<;>simp[e] at h ⊢
  ·have hnu:ex.dS=none:=by
    cases hu:ex.dS with
    | none=>rfl
    | some sgx=>exact absurd (su sgx.1 sgx.2.1 sgx.2.2 hu).1 h3
   refine PN hp CA Vc (fun s g aY=>?_) hcnt
   rw[tF,hnu];split
   ·rename_i d z hn;rw[if_neg];rintro⟨rfl,h,_⟩
    omega
   ·rfl
 unfold sB;rw[hgv,qK]
theorem JD {o:Oper} {e:rX} {s g:Nat} {z:Option oB} (Mb:∀t,mN st.aT (st.env t)) (h:sB P call ops o st=some e) (hu:e.dS=some (s,g,z)):g<st.aT s:=by
 obtain⟨_,_,su⟩:=pE h
 obtain⟨_,p,hp,hv⟩:=su s g z hu
 have Vc:mN st.aT (st.ev p):=by
  cases p with
  | tmp t=>exact Mb t
  | const v=>exact⟨⟨fun _ _=>False,fun _ _=>undef,st.aT⟩,v,rfl,.v v⟩
  | global g=>exact⟨⟨fun _ _=>False,fun _ _=>undef,st.aT⟩,_,rfl,.v _⟩
  | func f=>exact⟨⟨fun _ _=>False,fun _ _=>undef,st.aT⟩,_,rfl,.v _⟩
 rcases hv with ⟨off,hv⟩|hv|hv|⟨cs,hv,hm⟩|⟨o,n,hv⟩
 ·rw[hv] at Vc;exact Vc.ptr
 ·rw[hv] at Vc;exact Vc.own
 ·rw[hv] at Vc;exact Vc.mp
 ·rw[hv] at Vc;exact (Vc.agg _ hm).own
 ·rw[hv] at Vc;exact Vc.vw
theorem aDy (hp:CW st) {x y:Oper} (nK:sS ops x y=true) (Mb:∀t,mN st.aT (st.env t)) {s1 s2:St} (hx:cI P call ops x st=some s1) (hy:cI P call ops y s1=some s2) :
 ∃s3,cI P call ops y st=some s3∧cI P call ops x s3=some s2:=by
 rw[Fo] at hx hy;cases hex:sB P call ops x st with
 | none=>simp[hex] at hx
 | some ex =>
   simp only[hex,Option.map_some,Option.some.injEq] at hx;subst hx;rw[Uf hp (.inl nK) Mb hex] at hy;cases z8:sB P call ops y st with
   | none=>simp[z8] at hy
   | some ey =>
     simp only[z8,Option.map_some,Option.some.injEq] at hy;subst hy;refine⟨ey.apply st,by rw[Fo,z8];rfl, ?_⟩
     rw[Fo,Uf hp (.inr nK) Mb z8,hex];simp only[Option.map_some,Option.some.injEq];obtain⟨dx,nx,ux⟩:=pE hex
     obtain⟨dy,ny,uy⟩:=pE z8
     have hd:∀d,x.dst=some d→y.dst≠some d:=by
      simp only[sS,Bool.and_eq_true] at nK;exact (Oper.apart_spec nK.1).2.1
     have zK:¬(ex.dS≠none∧ey.dS≠none):=by
      rintro⟨h1,h2⟩
      cases hu:ex.dS with
      | none=>exact h1 hu
      | some a=>cases hv:ey.dS with
        | none=>exact h2 hv
        | some b =>
          have e1:=(ux a.1 a.2.1 a.2.2 hu).1
          have e2:=(uy b.1 b.2.1 b.2.2 hv).1
          simp[sS,e1,e2] at nK
     apply aAs
     ·funext t
      rw[oW,oW,oW,oW,dx,dy];by_cases h1:x.dst=some t
      ·rw[if_pos h1,if_pos h1,if_neg (hd t h1)]
      ·rw[if_neg h1,if_neg h1]
     ·funext s g
      rw[tF,tF,tF,tF];have cx:∀d z,ey.new=some (d,z)→(ex.apply st).aT d=st.aT d:=fun d z hn=>by
       rw[lP];split
       ·rename_i d' z' Gk
        rw[if_neg];rintro rfl
        exact hd _ (nx _ _ Gk) (ny _ _ hn)
       ·rfl
      have cy:∀d z,ex.new=some (d,z)→(ey.apply st).aT d=st.aT d:=fun d z hn=>by
       rw[lP];split
       ·rename_i d' z' Gk
        rw[if_neg];rintro rfl
        exact hd _ (nx _ _ hn) (ny _ _ Gk)
       ·rfl
      cases I0:ex.new with
      | none =>
        cases TU:ey.new with
        | none =>
          cases hux:ex.dS with
          | none=>rfl
          | some a=>cases huy:ey.dS with
            | none=>rfl
            | some b=>exact absurd ⟨by rw[hux];simp,by rw[huy];simp⟩ zK
        | some b =>
          obtain⟨d,z⟩:=b
          simp only[cx d z TU];cases hux:ex.dS with
          | none=>rfl
          | some a =>
            obtain⟨s0,g0,e0⟩:=a
            have aY:=JD Mb hex hux
            cases huy:ey.dS with
            | none =>
              simp only
              by_cases h1:s=d∧st.aT d≤g∧g-st.aT d<z.length
              ·rw[if_neg (by obtain⟨rfl,ha,hb⟩:=h1;rintro⟨rfl,rfl⟩;omega),if_pos h1,if_pos h1]
              ·rw[if_neg h1,if_neg h1]
            | some b=>exact absurd ⟨by rw[hux];simp,by rw[huy];simp⟩ zK
      | some a =>
        obtain⟨d,z⟩:=a
        cases TU:ey.new with
        | none =>
          simp only[cy d z I0];cases huy:ey.dS with
          | none=>rfl
          | some a =>
            obtain⟨s0,g0,e0⟩:=a
            have aY:=JD Mb z8 huy
            cases hux:ex.dS with
            | none =>
              simp only
              by_cases h1:s=d∧st.aT d≤g∧g-st.aT d<z.length
              ·rw[if_pos h1,if_neg (by obtain⟨rfl,ha,hb⟩:=h1;rintro⟨rfl,rfl⟩;omega),if_pos h1]
              ·rw[if_neg h1,if_neg h1]
            | some b=>exact absurd ⟨by rw[hux];simp,by rw[huy];simp⟩ zK
        | some b =>
          obtain⟨d',z'⟩:=b
          simp only[cy d z I0,cx d' z' TU];have I1:d≠d':=by
           rintro rfl
           exact hd _ (nx _ _ I0) (ny _ _ TU)
          cases hux:ex.dS with
          | none =>
            cases huy:ey.dS with
            | none =>
              simp only
              by_cases h1:s=d∧st.aT d≤g∧g-st.aT d<z.length
              ·rw[if_pos h1,if_pos h1,if_neg (fun h=>I1 (h1.1.symm.trans h.1))]
              ·rw[if_neg h1,if_neg h1]
            | some b =>
              obtain⟨s0,g0,e0⟩:=b
              have aY:=JD Mb z8 huy
              simp only
              by_cases h1:s=d∧st.aT d≤g∧g-st.aT d<z.length
              ·rw[if_pos h1,if_pos h1,if_neg (fun h=>I1 (h1.1.symm.trans h.1)),if_neg (by obtain⟨rfl,ha,hb⟩:=h1;rintro⟨rfl,rfl⟩;omega)]
              ·rw[if_neg h1,if_neg h1]
          | some a =>
            obtain⟨s0,g0,e0⟩:=a
            have aY:=JD Mb hex hux
            cases huy:ey.dS with
            | none =>
              simp only
              by_cases h1:s=d∧st.aT d≤g∧g-st.aT d<z.length
              ·rw[if_pos h1,if_pos h1,if_neg (fun h=>I1 (h1.1.symm.trans h.1))]
              ·rw[if_neg h1,if_neg h1];by_cases h2:s=d'∧st.aT d'≤g∧g-st.aT d'<z'.length
               ·rw[if_pos h2,if_neg (by obtain⟨rfl,ha,hb⟩:=h2;rintro⟨rfl,rfl⟩;omega),if_pos h2]
               ·rw[if_neg h2,if_neg h2]
            | some b=>exact absurd ⟨by rw[hux];simp,by rw[huy];simp⟩ zK
     ·funext s
      cases I0:ex.new with
      | none=>cases TU:ey.new<;>simp only[lP,I0,TU]
      | some a =>
        obtain⟨d,z⟩:=a
        cases TU:ey.new with
        | none=>simp only[lP,I0,TU]
        | some b =>
          obtain⟨d',z'⟩:=b
          have I1:d≠d':=by
           rintro rfl
           exact hd _ (nx _ _ I0) (ny _ _ TU)
          simp only[lP,I0,TU];rw[if_neg I1,if_neg (Ne.symm I1)];by_cases h1:s=d
          ·subst h1;rw[if_neg I1,if_pos rfl,if_neg I1]
          ·rw[if_neg h1,if_neg h1]
def Ik (st st':St) (x:AV):Prop:=∀s g,keyOf x=some (some (s,g))→st'.heap s g=st.heap s g
theorem WR {x:AV} (h:Ik st st' x):qS st' x=qS st x:=by
 cases x<;>simp only[qS]
 rw[h _ _ rfl]
theorem wM {x:AV} (h:Ik st st' x):aX st' x=aX st x:=by
 cases x
 case own=>simp only[aX,h _ _ rfl]
 case vw=>simp only[aX,h _ _ rfl]
 case v y =>
  cases y
  case slice p n c=>cases p<;>cases n<;>cases c<;>rfl
  all_goals rfl
 all_goals rfl
theorem Zo {T:Nat} {x i:AV} (h:Ik st st' x):bH P st' T x i=bH P st T x i:=by
 unfold bH;cases x<;>try rfl
 simp only[h _ _ rfl]
theorem WS {T:Nat} {x y:AV} (h:Ik st st' x):qB P st' T x y=qB P st T x y:=by
 unfold qB;cases x<;>try rfl
 simp only[h _ _ rfl]
theorem WU {T:Nat} {x:AV} {lo hi:Option Operand} (hx:Ik st st' x) (hl:∀p,lo=some p→st'.ev p=st.ev p) (Db:∀p,hi=some p→st'.ev p=st.ev p):dB P st' T x lo hi=dB P st T x lo hi :=
 Zl (fun s g h=>by
  rcases h with ⟨o,rfl⟩|rfl|⟨o,n,rfl⟩<;>exact hx _ _ rfl) hl Db
theorem PQ {T:Nat} {s x:AV} (hs:Ik st st' s) (hx:Ik st st' x):dJ P st' T s x=dJ P st T s x:=by
 unfold dJ;rw[wM hx];cases s
 case own=>simp only[hs _ _ rfl]
 case v y =>
  cases y
  case slice p n c=>cases p<;>cases n<;>cases c<;>rfl
  all_goals rfl
 all_goals rfl
theorem PR {T:Nat} {s x:AV} (hs:Ik st st' s) (hx:Ik st st' x):oC P st' T s x=oC P st T s x:=by
 unfold oC;rw[wM hx];cases dW P T with
 | none=>rfl
 | some t=>cases aX st x with
   | none=>rfl
   | some mn =>
     cases s<;>try rfl
     case vw s g o n =>
      cases o with
      | zero=>simp only[hs _ _ rfl]
      | succ o=>rfl
theorem WV {r:AV} {dst:Option Nat} (hc:∀d,dst=some d→st'.aT d=st.aT d):jC r st' dst=jC r st dst:=by
 unfold jC;cases dst with
 | none=>rfl
 | some d=>simp only[hc d rfl]
theorem WW {g:Nat} {x:AV} {args:List AV} {dst:Option Nat} (hx:Ik st st' x) (hc:∀d,dst=some d→st'.aT d=st.aT d):lQ call g (x :: args) st' dst=lQ call g (x :: args) st dst:=by
 unfold lQ;split
 ·rename_i s k rest heq;simp only[List.cons.injEq] at heq;obtain⟨rfl,rfl⟩:=heq
  rw[hx _ _ rfl];cases dst with
  | none=>rfl
  | some d=>simp only[hc d rfl]
 ·split
  ·rename_i hf;unfold aM;rw[if_pos hf,if_pos hf];have h2:∀r,jC r st' dst=jC r st dst:=fun r=>WV hc
   simp only[h2]
  ·rfl
theorem DD {o:Oper} {aS:List Nat} (h:iA o=some aS):o.guard=none:=by
 unfold iA at h;split at h
 ·cases h
 ·assumption
theorem JE {o:Oper} {aS:List Nat} (ha:iA o=some aS):sB P call ops o st=dT P call o st:=by
 unfold sB;rw[DD ha];rfl
inductive Ug:Op→List Nat→Prop
 | load (T a:Nat):Ug (.load T (.tmp a)) [a]
 | store (T a:Nat) (x:Operand):Ug (.store T (.tmp a) x) [a]
 | indexAddr (T a:Nat) (x:Operand):Ug (.indexAddr T (.tmp a) x) [a]
 | slice (T a:Nat) (lo hi mx:Option Operand):Ug (.slice T (.tmp a) lo hi mx) [a]
 | len (a:Nat) (args:Array Operand) (tQ:Array Nat) (h:args.toList=[.tmp a]):Ug (.call ⟨.builtin .len,args,tQ⟩) [a]
 | append (a b:Nat) (args:Array Operand) (tQ:Array Nat) (h:args.toList=[.tmp a,.tmp b]):Ug (.call ⟨.builtin .append,args,tQ⟩) [a,b]
 | mv (g a:Nat) (r:List Operand) (args:Array Operand) (tQ:Array Nat) (h:args.toList=.tmp a :: r) (hg:Ext.mv g=true):Ug (.call ⟨.value (.func g),args,tQ⟩) [a]
theorem Pp {o:Oper} {aS:List Nat} (h:iA o=some aS):Ug o.op aS:=by
 unfold iA at h;split at h
 ·cases h
 ·split at h
  ·rename_i T a ho;simp only[Option.some.injEq] at h;subst h;rw[ho];exact .load T a
  ·rename_i T a x ho;simp only[Option.some.injEq] at h;subst h;rw[ho];exact .store T a x
  ·rename_i T a x ho;simp only[Option.some.injEq] at h;subst h;rw[ho];exact .indexAddr T a x
  ·rename_i T a lo hi mx ho;simp only[Option.some.injEq] at h;subst h;rw[ho];exact .slice T a lo hi mx
  ·rename_i args tQ ho;split at h
   ·rename_i a hl;simp only[Option.some.injEq] at h;subst h;rw[ho];exact .len a args tQ hl
   ·cases h
  ·rename_i args tQ ho;split at h
   ·rename_i a b hl;simp only[Option.some.injEq] at h;subst h;rw[ho];exact .append a b args tQ hl
   ·cases h
  ·rename_i g args tQ ho;split at h
   ·rename_i a r hl;split at h
    ·rename_i hg;simp only[Option.some.injEq] at h;subst h;rw[ho];exact .mv g a r args tQ hl hg
    ·cases h
   ·cases h
  ·cases h
theorem I2 {T s g:Nat} {p x:AV} {e':oB} (hs:qB P st T p x=some (s,g,e')):∃o,p=.ptr s g o:=by
 unfold qB at hs;split at hs
 ·rename_i s1 g1 o1;split at hs
  ·split at hs
   ·split at hs
    ·split at hs
     ·simp only[Option.some.injEq,Prod.mk.injEq] at hs;obtain⟨rfl,rfl,_⟩:=hs;exact⟨_,rfl⟩
     ·cases hs
    ·split at hs
     ·simp only[Option.some.injEq,Prod.mk.injEq] at hs;obtain⟨rfl,rfl,_⟩:=hs;exact⟨_,rfl⟩
     ·cases hs
    ·cases hs
   ·cases hs
  ·cases hs
 ·cases hs
theorem WX {T s g:Nat} {p x:AV} {r:oB} (nK:dJ P st T p x=some (some (s,g),r)):p=.own s g:=by
 unfold dJ at nK;split at nK
 ·split at nK
  ·split at nK
   ·split at nK
    ·split at nK<;>simp at nK
    ·rename_i s3 g3;split at nK
     ·split at nK
      ·simp only[Option.some.injEq,Prod.mk.injEq] at nK;obtain⟨⟨rfl,rfl⟩,_⟩:=nK
       rfl
      ·cases nK
     ·cases nK
    ·split at nK<;>simp at nK
    ·cases nK
   ·cases nK
  ·cases nK
 ·cases nK
theorem Sk {o:Oper} {aS:List Nat} {e:rX} (ha:iA o=some aS) (h:sB P call ops o st=some e) :
 ∀s g z,e.dS=some (s,g,z)→∃a∈aS,keyOf (st.env a)=some (some (s,g)):=by
 rw[JE ha] at h;have hk:=Pp ha
 clear ha
 obtain⟨dst,op,type,pos,after,guard⟩:=o
 have val:∀(v:Option AV),(v.map fun x=>({ dst:=dst,val:=x }:rX))=some e→e.dS=none:=fun v hv=>by
  cases v with
  | none=>cases hv
  | some v=>simp only[Option.map_some,Option.some.injEq] at hv;subst hv;rfl
 intro s g z hu;cases hk
 case load T a=>simp only[dT] at h;rw[val _ h] at hu;cases hu
 case indexAddr T a x=>simp only[dT] at h;rw[val _ h] at hu;cases hu
 case slice T a lo hi mx=>simp only[dT] at h;rw[val _ h] at hu;cases hu
 case len a args tQ hl =>
  simp only[dT,iT,hl] at h;split at h
  ·split at h
   ·simp only[Option.some.injEq] at h;subst h;cases hu
   ·cases h
  ·cases h
 case store T a x =>
  simp only[dT] at h;cases hs:qB P st T (st.ev (.tmp a)) (st.ev x) with
  | none=>simp[hs] at h
  | some u =>
    obtain⟨s',g',e'⟩:=u
    simp only[hs,Option.map_some,Option.some.injEq] at h;subst h;simp only[Option.some.injEq,Prod.mk.injEq] at hu;obtain⟨rfl,rfl,_⟩:=hu
    obtain⟨o1,ho1⟩:=I2 hs
    exact⟨a,by simp,by rw[show st.env a=st.ev (.tmp a) from rfl,ho1];rfl⟩
 case append a b args tQ hl =>
  simp only[dT,iT,hl] at h;cases dst with
  | none=>simp[cT] at h
  | some d =>
    simp only[cT] at h;split at h
    ·rename_i s0 x0 T T' heq _
     simp only[List.cons.injEq,and_true] at heq;obtain⟨rfl,rfl⟩:=heq
     split at h
     ·split at h
      ·cases nK:oC P st T (st.ev (.tmp a)) (st.ev (.tmp b)) with
       | none=>simp[nK] at h
       | some u =>
       simp only[nK,Option.map_some,Option.some.injEq] at h;subst h;simp only[Option.some.injEq,Prod.mk.injEq] at hu;obtain⟨rfl,rfl,rfl⟩:=hu
       obtain⟨n0,Ad⟩:=Zn nK
       exact⟨a,by simp,by rw[show st.env a=st.ev (.tmp a) from rfl,Ad];rfl⟩
      split at h
      ·simp only[Option.some.injEq] at h;subst h;cases hu
      cases nK:dJ P st T (st.ev (.tmp a)) (st.ev (.tmp b)) with
      | none=>simp[nK] at h
      | some ur =>
        obtain⟨u,r⟩:=ur
        simp only[nK,Option.some.injEq] at h;subst h;cases u with
        | none=>cases hu
        | some p =>
          simp only[Option.map_some,Option.some.injEq,Prod.mk.injEq] at hu;obtain⟨rfl,rfl,_⟩:=hu
          exact⟨a,by simp,by rw[show st.env a=st.ev (.tmp a) from rfl,WX nK];rfl⟩
     ·cases h
    ·cases h
 case mv g' a r args tQ hl hg =>
  simp only[dT,iT,oD] at h;rw[if_pos hg] at h;obtain⟨_,_,h3⟩:=Po h
  have:=h3 s g z hu
  rw[hl] at this;simp only[List.map_cons,List.head?_cons,Option.some.injEq,St.ev] at this;exact⟨a,by simp,by rw[this];rfl⟩
theorem mem_congr {o:Oper} {aS:List Nat} (ha:iA o=some aS) (CA:∀p∈o.op.operands,st'.ev p=st.ev p) (hh:∀a∈aS,Ik st st' (st.env a)) (hc:∀d,o.dst=some d→st'.aT d=st.aT d) :
 sB P call ops o st'=sB P call ops o st:=by
 rw[JE ha,JE ha];have hk:=Pp ha
 clear ha
 obtain⟨dst,op,type,pos,after,guard⟩:=o
 simp only at hk CA hc
 cases hk
 case load T a =>
  have h1:st'.env a=st.env a:=CA (.tmp a) (by simp[Op.operands])
  simp only[dT,iX,St.ev,h1,WR (hh a (by simp))]
 case store T a x =>
  have h1:st'.env a=st.env a:=CA (.tmp a) (by simp[Op.operands])
  have h2:=CA x (by simp[Op.operands])
  have h3:st'.ev (.tmp a)=st.ev (.tmp a):=h1
  simp only[dT,h2,h3];rw[show st.ev (.tmp a)=st.env a from rfl,WS (hh a (by simp))]
 case indexAddr T a x =>
  have h1:st'.env a=st.env a:=CA (.tmp a) (by simp[Op.operands])
  have h2:=CA x (by simp[Op.operands])
  have h3:st'.ev (.tmp a)=st.ev (.tmp a):=h1
  simp only[dT,iX,h2,h3];rw[show st.ev (.tmp a)=st.env a from rfl,Zo (hh a (by simp))]
 case slice T a lo hi mx =>
  have h1:st'.env a=st.env a:=CA (.tmp a) (by simp[Op.operands])
  have h3:st'.ev (.tmp a)=st.ev (.tmp a):=h1
  have hl:∀p,lo=some p→st'.ev p=st.ev p:=fun p hp=>CA p (by subst hp;simp[Op.operands])
  have Db:∀p,hi=some p→st'.ev p=st.ev p:=fun p hp=>CA p (by subst hp;simp[Op.operands])
  have hm:∀p,mx=some p→st'.ev p=st.ev p:=fun p hp=>CA p (by subst hp;simp[Op.operands])
  have hS:=WU (P:=P) (T:=T) (hh a (by simp)) hl Db
  cases mx with
  | none =>
    simp only[dT,iX,h3];rw[show st.ev (.tmp a)=st.env a from rfl,hS]
  | some m =>
    cases hi with
    | none=>rfl
    | some h =>
      simp only[dT,iX,h3];rw[Ue (fun s g hx=>hh a (by simp) s g (by rw[show st.env a=st.ev (.tmp a) from rfl,hx];rfl)) hl (Db h rfl) (hm m rfl)]
 case len a args tQ hl =>
  have h1:st'.env a=st.env a:=CA (.tmp a) (by simp[Op.operands,Call.operands,← Array.mem_toList_iff,hl])
  have h3:st'.ev (.tmp a)=st.ev (.tmp a):=h1
  have hv:aX st' (st'.ev (.tmp a))=aX st (st.ev (.tmp a)):=by rw[h3];exact wM (hh a (by simp))
  simp only[dT,iT,hl];cases tQ.toList with
  | nil=>rfl
  | cons T r=>cases r with
    | nil=>simp only[hv]
    | cons _ _=>rfl
 case append a b args tQ hl =>
  have h1:st'.ev (.tmp a)=st.ev (.tmp a):=CA (.tmp a) (by simp[Op.operands,Call.operands,← Array.mem_toList_iff,hl])
  have h2:st'.ev (.tmp b)=st.ev (.tmp b):=CA (.tmp b) (by simp[Op.operands,Call.operands,← Array.mem_toList_iff,hl])
  have hV:∀T,oC P st' T (st.ev (.tmp a)) (st.ev (.tmp b))=oC P st T (st.ev (.tmp a)) (st.ev (.tmp b)):=fun T=>PR (hh a (by simp)) (hh b (by simp))
  have hA:∀T,dJ P st' T (st.ev (.tmp a)) (st.ev (.tmp b))=dJ P st T (st.ev (.tmp a)) (st.ev (.tmp b)):=fun T=>PQ (hh a (by simp)) (hh b (by simp))
  simp only[dT,iT,hl];cases dst with
  | none=>rfl
  | some d =>
    simp only[cT,hc d rfl];cases tQ.toList with
    | nil=>rfl
    | cons T r=>cases r with
      | nil=>rfl
      | cons T' r'=>cases r' with
        | nil =>
          have hn:Ha P st' T (st'.ev (.tmp a)) (st'.ev (.tmp b))=Ha P st T (st.ev (.tmp a)) (st.ev (.tmp b)):=by
           have h3:aX st' (st.ev (.tmp b))=aX st (st.ev (.tmp b)):=wM (hh b (by simp))
           simp only[Ha,h1,h2,h3]
          simp only[];rw[hn,h1,h2,hA,hV]
        | cons _ _=>rfl
 case mv g' a r args tQ hl hg =>
  have he:∀p∈args.toList,st'.ev p=st.ev p:=fun p hp=>CA p (by simp[Op.operands,Call.operands,← Array.mem_toList_iff,hp])
  have h1:args.toList.map st'.ev=args.toList.map st.ev:=List.map_congr_left he
  simp only[dT,iT,oD];rw[if_pos hg,if_pos hg,h1,hl];simp only[List.map_cons];exact WW (hh a (by simp)) hc
theorem aAu {x y:AV} (h:fL x y∨fL y x) {k k':Nat × Nat} (hx:keyOf x=some (some k)) (hy:keyOf y=some (some k')):k≠k':=by
 unfold fL at h;rw[hx,hy] at h;rcases h with h|h
 ·exact h
 ·exact fun e=>h e.symm
theorem aAv {aT:Nat→Nat} {x:AV} {s g:Nat} (h:mN aT x) (hk:keyOf x=some (some (s,g))):g<aT s:=by
 cases x<;>simp only[keyOf,Option.some.injEq,Prod.mk.injEq,reduceCtorEq] at hk
 ·obtain⟨rfl,rfl⟩:=hk;exact h.ptr
 ·obtain⟨rfl,rfl⟩:=hk;exact h.own
 ·obtain⟨rfl,rfl⟩:=hk;exact h.vw
theorem GO {x y:Oper} {aS bs:List Nat} {ex:rX} (Mb:∀t,mN st.aT (st.env t)) (hax:iA x=some aS) (hay:iA y=some bs) (z7:∀d,x.dst=some d→d ∉ y.looksAt ops) (lI:∀d,x.dst=some d→y.dst≠some d)
 (hf:∀a∈aS,∀b∈bs,fL (st.env a) (st.env b)∨fL (st.env b) (st.env a)) (hx:sB P call ops x st=some ex):sB P call ops y (ex.apply st)=sB P call ops y st:=by
 obtain⟨sd,sn,_⟩:=pE hx
 have su:=Sk hax hx
 refine mem_congr hay (fun p hp=>?_) (fun b hb s g hk=>?_) fun d hd=>?_
 ·cases p with
  | tmp t =>
    show (ex.apply st).env t=st.env t
    rw[oW,if_neg];intro h;rw[sd] at h;exact z7 t h (by unfold Oper.looksAt;exact List.mem_append_left _ (List.mem_filterMap.2 ⟨.tmp t,by simpa using hp,rfl⟩))
  | _=>rfl
 ·have aY:=aAv (Mb b) hk
  have hupd:(match ex.dS with|some (s0,g0,y)=>if s=s0∧g=g0 then y else st.heap s g|none=>st.heap s g)=st.heap s g:=by
   cases hu:ex.dS with
   | none=>rfl
   | some u =>
     obtain⟨s0,g0,z⟩:=u
     obtain⟨a,ha,hka⟩:=su s0 g0 z hu
     simp only
     rw[if_neg];rintro⟨rfl,rfl⟩
     exact aAu (hf a ha b hb) hka hk rfl
  rw[tF];split
  ·rename_i d es hn;rw[if_neg (by rintro⟨rfl,h,_⟩;omega)]
   exact hupd
  ·exact hupd
 ·rw[lP];split
  ·rename_i d' z hn
   rw[if_neg];rintro rfl
   exact lI _ (sn _ _ hn) hd
  ·rfl
theorem aAw {α:Type} {A B C D:Prop} [Decidable A] [Decidable B] [Decidable C] [Decidable D] {na nb uc ud h:α} (h1:A→¬B) (h2:A→¬D) (h3:C→¬B) (h4:C→¬D) :
 (if B then nb else if D then ud else if A then na else if C then uc else h)=(if A then na else if C then uc else if B then nb else if D then ud else h):=by
 by_cases a:A
 ·rw[if_neg (h1 a),if_neg (h2 a),if_pos a,if_pos a]
 ·rw[if_neg a,if_neg a];by_cases c:C
  ·rw[if_neg (h3 c),if_neg (h4 c),if_pos c,if_pos c]
  ·rw[if_neg c,if_neg c]
def Sl (e:rX) (aT:Nat→Nat) (s g:Nat):Prop:=∃d es,e.new=some (d,es)∧s=d∧aT d≤g∧g-aT d<es.length
def WY (e:rX) (s g:Nat):Prop:=∃z,e.dS=some (s,g,z)
def Il (e:rX) (aT:Nat→Nat) (g:Nat):Option oB:=match e.new with|some (d,es)=>es[g-aT d]? | none=>none
def WZ (e:rX):Option oB:=match e.dS with|some (_,_,z)=>z|none=>none
theorem Bu (e:rX) (st:St) (s g:Nat):(e.apply st).heap s g=if Sl e st.aT s g then Il e st.aT g else if WY e s g then WZ e else st.heap s g:=by
 have hu:(match e.dS with|some (s0,g0,y)=>if s=s0∧g=g0 then y else st.heap s g|none=>st.heap s g)=if WY e s g then WZ e else st.heap s g:=by
  unfold WY WZ;cases hu:e.dS with
  | none=>simp
  | some u =>
    obtain⟨s0,g0,z⟩:=u
    simp only
    by_cases h:s=s0∧g=g0
    ·obtain⟨rfl,rfl⟩:=h
     rw[if_pos ⟨rfl,rfl⟩,if_pos ⟨z,rfl⟩]
    ·rw[if_neg h,if_neg];rintro⟨z',h'⟩
     simp only[Option.some.injEq,Prod.mk.injEq] at h'
     exact h ⟨h'.1.symm,h'.2.1.symm⟩
 rw[tF];unfold Sl Il;cases hn:e.new with
 | none=>simp only;rw[if_neg (by rintro⟨d,es,h,_⟩;cases h)];exact hu
 | some p =>
   obtain⟨d,es⟩:=p
   simp only
   by_cases h:s=d∧st.aT d≤g∧g-st.aT d<es.length
   ·rw[if_pos h,if_pos ⟨d,es,rfl,h⟩]
   ·rw[if_neg h,if_neg]
    ·exact hu
    ·rintro⟨d',es',h',h2⟩
     simp only[Option.some.injEq,Prod.mk.injEq] at h'
     obtain⟨rfl,rfl⟩:=h'
     exact h h2
theorem aAx {x y:Oper} {aS bs:List Nat} (Mb:∀t,mN st.aT (st.env t)) (hax:iA x=some aS) (hay:iA y=some bs) (nK:Oper.apart ops x y=true) (hf:Lj st aS bs) {s1 s2:St} (hx:cI P call ops x st=some s1) (hy:cI P call ops y s1=some s2) :
 ∃s3,cI P call ops y st=some s3∧cI P call ops x s3=some s2:=by
 obtain⟨l1,l2,l3⟩:=Oper.apart_spec nK
 have l2':∀d,y.dst=some d→x.dst≠some d:=fun d hd hx=>l2 d hx hd
 rw[Fo] at hx hy;cases hex:sB P call ops x st with
 | none=>simp[hex] at hx
 | some ex =>
   simp only[hex,Option.map_some,Option.some.injEq] at hx;subst hx;rw[GO Mb hax hay l1 l2 (fun a ha b hb=>.inl (hf a ha b hb)) hex] at hy
   cases z8:sB P call ops y st with
   | none=>simp[z8] at hy
   | some ey =>
     simp only[z8,Option.map_some,Option.some.injEq] at hy;subst hy;refine⟨ey.apply st,by rw[Fo,z8];rfl, ?_⟩
     rw[Fo,GO Mb hay hax l3 l2' (fun b hb a ha=>.inr (hf a ha b hb)) z8,hex]
     simp only[Option.map_some,Option.some.injEq];obtain⟨dx,nx,_⟩:=pE hex
     obtain⟨dy,ny,_⟩:=pE z8
     have ux:=Sk hax hex
     have uy:=Sk hay z8
     have cx:∀d z,ey.new=some (d,z)→(ex.apply st).aT d=st.aT d:=fun d z hn=>by
      rw[lP];split
      ·rename_i d' z' Gk
       rw[if_neg];rintro rfl
       exact l2 _ (nx _ _ Gk) (ny _ _ hn)
      ·rfl
     have cy:∀d z,ex.new=some (d,z)→(ey.apply st).aT d=st.aT d:=fun d z hn=>by
      rw[lP];split
      ·rename_i d' z' Gk
       rw[if_neg];rintro rfl
       exact l2 _ (nx _ _ hn) (ny _ _ Gk)
      ·rfl
     apply aAs
     ·funext t
      rw[oW,oW,oW,oW,dx,dy];by_cases h1:x.dst=some t
      ·rw[if_pos h1,if_pos h1,if_neg (l2 t h1)]
      ·rw[if_neg h1,if_neg h1]
     ·funext s g
      have nyE:Sl ey (ex.apply st).aT s g↔Sl ey st.aT s g:=by
       constructor
       ·rintro⟨d,es,h,h2⟩;rw[cx d es h] at h2;exact⟨d,es,h,h2⟩
       ·rintro⟨d,es,h,h2⟩;rw[← cx d es h] at h2;exact⟨d,es,h,h2⟩
      have nxE:Sl ex (ey.apply st).aT s g↔Sl ex st.aT s g:=by
       constructor
       ·rintro⟨d,es,h,h2⟩;rw[cy d es h] at h2;exact⟨d,es,h,h2⟩
       ·rintro⟨d,es,h,h2⟩;rw[← cy d es h] at h2;exact⟨d,es,h,h2⟩
      have vyE:Il ey (ex.apply st).aT g=Il ey st.aT g:=by
       unfold Il;cases hn:ey.new with
       | none=>rfl
       | some p=>simp only[cx p.1 p.2 hn]
      have vxE:Il ex (ey.apply st).aT g=Il ex st.aT g:=by
       unfold Il;cases hn:ex.new with
       | none=>rfl
       | some p=>simp only[cy p.1 p.2 hn]
      rw[Bu,Bu,Bu,Bu];simp only[nyE,nxE,vyE,vxE];symm
      have idk:∀a s g,keyOf (st.env a)=some (some (s,g))→g<st.aT s:=fun a s g h=>aAv (Mb a) h
      refine aAw ?_ ?_ ?_ ?_
      ·rintro⟨d,es,h,rfl,_⟩ ⟨d',es',h',rfl,_⟩
       exact l2 _ (nx _ _ h) (ny _ _ h')
      ·rintro⟨d,es,h,rfl,h1,_⟩ ⟨z,h'⟩
       obtain⟨b,_,hb⟩:=uy _ _ _ h'
       have:=idk b _ _ hb
       omega
      ·rintro⟨z,h⟩ ⟨d,es,h',rfl,h1,_⟩
       obtain⟨a,_,ha⟩:=ux _ _ _ h
       have:=idk a _ _ ha
       omega
      ·rintro⟨z,h⟩ ⟨z',h'⟩
       obtain⟨a,ha,hka⟩:=ux _ _ _ h
       obtain⟨b,hb,hkb⟩:=uy _ _ _ h'
       exact aAu (.inl (hf a ha b hb)) hka hkb rfl
     ·funext s
      rw[lP,lP];cases I0:ex.new with
      | none=>cases TU:ey.new<;>simp only[lP,I0,TU]
      | some a =>
        obtain⟨d,z⟩:=a
        cases TU:ey.new with
        | none=>simp only[lP,I0,TU]
        | some b =>
          obtain⟨d',z'⟩:=b
          have I1:d≠d':=by
           rintro rfl
           exact l2 _ (nx _ _ I0) (ny _ _ TU)
          simp only[lP,I0,TU];rw[if_neg I1,if_neg (Ne.symm I1)];by_cases h1:s=d
          ·subst h1;rw[if_neg I1,if_pos rfl,if_neg I1]
          ·rw[if_neg h1,if_neg h1]
end
end Go.Ab
end
