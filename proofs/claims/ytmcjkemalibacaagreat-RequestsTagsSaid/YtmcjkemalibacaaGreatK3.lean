/-
  Part 3 of the proof: an evaluator of programs, its soundness, and what functions of this program compute.
-/
import Derived.Test.YtmcjkemalibacaaGreatK2
import Derived.Deep.Upon
set_option linter.all false
set_option maxRecDepth 20000
set_option maxHeartbeats 40000000
section
namespace Go.Ab
open Classical
section
variable {P:Program} {h0:Nat→Obj→Prop} {w0:World} {F:Fz} {nt:Nat} {ρ:Nat→Nat→Value} {st:St} {a:Act} {w:World} {K:Act→World→Prop} {Q:Exit→Act→World→Prop}
theorem Eg {base T ty e:Nat} {ei:TypeInfo} {ez:Value} (hT:P.underlying T=some (.slice e)) (Ay:P.info? e=some ei) (Zz:ei.zero=some ez) (Rx:ez.cells.size=ei.size) (zJ:0<ei.size)
 (vW:base≤w.heap.size) {v:Value} {n:Nat} {xs:List Value} (yU:nD w base e ei.size v n xs)
 {p:Option Addr} {m c:Nat} {news:List Value} (hl:news.length=m * ei.size) (P9:news≠[]→∃ad,p=some ad∧∀(j:Nat) (u:Value),news[j]? = some u→w.cell? (ad.add j)=some u)
 (h1:∀u∈news,u.oneCell'=true) (h63:n+m≤maxLen) (hb:(n+m) * ei.bytes≤140737488355328) :
 ∃v' w',(Builtin.append_ #[T,T] ty #[v,.slice p m c]).run P w=.ok v' w'∧nD w' base e ei.size v' (n+m) (xs++news)∧w.grownBy w' (dB v)∧(∀b,dB v'=some b→dB v=some b∨w.heap.size≤b):=by
 by_cases hm:m=0
 ·subst hm;have hn:news=[]:=List.eq_nil_of_length_eq_zero (by simpa using hl)
  subst hn;refine⟨v,w, ?_,by simpa using yU,⟨rfl,rfl,rfl,Nat.le_refl _,fun _ _ _=>rfl⟩,fun b hb=>.inl hb⟩
  have hfc:∀(x:Value),(∃p,x=.slice p 0 c)→(Builtin.firstCells ei.size 0 x).run P w=.ok #[] w:=by
   rintro x ⟨p,rfl⟩
   cases p<;>simp[Builtin.firstCells,loadCells,loadCellsFrom]
  rcases yU.2 with ⟨q,rfl,rfl⟩|⟨g,cap,cur,rfl,_,_,Td,_⟩
  ·cases q<;>simp[Builtin.append_,aX hT,run_sizeOf w Ay,Builtin.lenOf,hfc _ ⟨p,rfl⟩,storeCells]
  ·simp[Builtin.append_,aX hT,run_sizeOf w Ay,Builtin.lenOf,hfc _ ⟨p,rfl⟩,Td,storeCells]
 ·have gN:news≠[]:=by
   intro h;subst h;have:0<m * ei.size:=Nat.mul_pos (by omega) zJ
   simp at hl
   omega
  obtain⟨ad,rfl,Xj⟩:=P9 gN
  have hlen:(xs++news).length=(n+m) * ei.size:=by rw[List.length_append,yU.1,hl,Nat.add_mul]
  have grow:∀(ga:Addr) (cap:Nat),cap<n+m→(∀(j:Nat) (u:Value),xs[j]? = some u→w.cell? (ga.add j)=some u)→∃v' w',(Builtin.append_ #[T,T] ty #[.slice (some ga) n cap,.slice (some ad) m c]).run P w=.ok v' w' ∧
   nD w' base e ei.size v' (n+m) (xs++news)∧w.grownBy w' none∧∀b,dB v'=some b→w.heap.size≤b:=by
   intro ga cap XS holds;have hr:=run_append_grow (P:=P) w T ty e ei ez hT Ay Zz ga n cap xs yU.1 holds ad m c news hl Xj (by omega) (by simp only[maxLen] at h63;omega) (growslice_fits (by omega) hb)
   have hge:=grownCap_ge w (n+m) cap e
   have aFw:=grownCap_le_maxLen w (n+m) cap e h63
   refine⟨_,_,hr,⟨hlen,.inr ⟨w.heap.size,_,_,rfl,vW,heap_alloc_new w.drew _,hge,aFw, ?_, ?_,by omega⟩⟩,⟨rfl,rfl,rfl,by simp,fun k hk _=>heap_alloc_old w.drew _ hk⟩,fun b hb=>?_⟩
   ·simp only[Array.size_append,List.size_toArray,size_zeroCells,Rx,yU.1,hl,← Nat.add_mul];congr 1
    omega
   ·simp only[Array.toList_append,List.append_assoc];rw[← List.append_assoc,← hlen];exact List.take_left
   ·rw[jT (by omega)] at hb
    simp at hb
    omega
  rcases yU.2 with ⟨q,rfl,rfl⟩|⟨g,cap,cur,rfl,hbg,hg,Td,p6,GJ,htake,pY⟩
  ·have hx:xs=[]:=List.eq_nil_of_length_eq_zero (by simpa using yU.1)
   cases q with
   | none =>
     subst hx;obtain⟨v',w',hr,ho,hgr,_⟩:=run_append_own (P:=P) w w.heap.size T ty e ei ez ei.size ei.bytes hT Ay Zz rfl rfl Rx zJ (.slice none 0 0) 0 [] (World.ownsRow_nil w _ e ei.size)
      ad m c news hl Xj h1 (by simpa using h63) (by simpa using hb) (Nat.le_refl _)
     exact⟨v',w',hr,xY (Fy ho) vW,hgr,fun b hb=>.inr ((Bv (Fy ho) b hb).1)⟩
   | some ga =>
     obtain⟨v',w',hr,ho,hgr,mZ⟩:=grow ga 0 (by omega) (by rw[hx];simp)
     exact⟨v',w',hr,ho,by rw[pE];exact hgr,fun b hb=>.inr (mZ b hb)⟩
  ·by_cases XS:n+m≤cap
   ·have aBP:n * ei.size+news.length≤cur.size:=by rw[hl,GJ,← Nat.add_mul];exact Nat.mul_le_mul_right _ XS
    have hr:=run_append_room (P:=P) w T ty e ei hT Ay g n cap cur hg ad m c news hl Xj h1 XS aBP
    refine⟨_,_,hr,⟨hlen,.inr ⟨g,cap,_,rfl,hbg,setRow_heap w g cur _ e _ hg,XS,p6, ?_, ?_,pY⟩⟩,⟨rfl,rfl,rfl,by simp,fun k _ hk=>setRow_other w g k _ (fun e=>hk (by rw[jT pY,e]))⟩,fun b hb=>.inl (by rw[jT pY] at hb ⊢;exact hb)⟩
    ·simp only[List.size_toArray,List.length_append,List.length_take,List.length_drop,Array.length_toList];omega
    ·rw[htake,← hlen];exact List.take_left
   ·have holds:∀(j:Nat) (u:Value),xs[j]? = some u→w.cell? ((⟨g,0,none⟩:Addr).add j)=some u:=fun j u hu=>by
     rw[lA,Nat.zero_add,cell_of_row w g j cur e (0,0) hg];rw[← htake,List.getElem?_take] at hu;split at hu
     ·simpa using hu
     ·cases hu
    obtain⟨v',w',hr,ho,hgr,mZ⟩:=grow ⟨g,0,none⟩ cap (by omega) holds
    exact⟨v',w',hr,ho,⟨hgr.os,hgr.tape,hgr.output,hgr.size,fun k hk _=>hgr.block k hk (by simp)⟩,fun b hb=>.inr (mZ b hb)⟩
theorem kS (dst:Option Nat) (v:AV) (d:Nat) (x:mI):qR.apply { dst:=dst,val:=v,new:=some (d,[x])} st=(st.new d x).put dst v:=by
 simp only[qR.apply,Uz]
theorem Qq (dst:Option Nat) (v:AV) (s g d:Nat) (z:Option mI) (x:mI):qR.apply { dst:=dst,val:=v,dJ:=some (s,g,z),new:=some (d,[x])} st=((st.jE s g z).new d x).put dst v:=by
 simp only[qR.apply,Uz]
theorem GN (S:kA F h0 w0 nt ρ st a w) {T ty d:Nat} {s x:AV} {u:Option (Nat × Nat)} {r:mI} {sv xv:Value} (hd:d<nt) (h:cX P st T s x=some (u,r))
 (hs:cS (ctx h0 w0 ρ st w) s sv) (hx:cS (ctx h0 w0 ρ st w) x xv) :
 ∃v w' nC,(Builtin.append_ #[T,T] ty #[sv,xv]).run P w=.ok v w' ∧
  kA F h0 w0 nt nC (qR.apply { dst:=some d,val:=.own d (st.aO d),dJ:=u.map fun p=>(p.1,p.2,none),new:=some (d,[r])} st) (a.put (some d) v) w':=by
 unfold cX at h;cases QT:dK P T with
 | none=>simp[QT] at h
 | some t =>
   obtain⟨e,sz,by_⟩:=t
   simp only[QT] at h;obtain⟨ei,ez,hT,Ay,Zz,rfl,Rx,rfl,zJ⟩:=jP QT
   cases hv:aQ st x with
   | none=>simp[hv] at h
   | some mn =>
     obtain⟨m,news⟩:=mn
     simp only[hv] at h;split at h
     ·rename_i hlen;obtain⟨p,c,rfl,P9⟩:=sA S hv hx
      have Q0:∃nv:List Value,fR (ctx h0 w0 ρ st w) news nv∧(nv≠[]→∃ad,p=some ad∧∀(j:Nat) (u:Value),nv[j]? = some u→w.cell? (ad.add j)=some u):=by
       by_cases gN:news=[]
       ·subst gN;exact⟨[],.nil _,fun h=>absurd rfl h⟩
       ·obtain⟨b,off,arr,T',fr,hp,hb,hc⟩:=P9 gN
        refine⟨_,hc,fun _=>⟨_,hp,fun j u hu=>?_⟩⟩
        rw[lA,cell_of_row w b (off+j) arr T' fr hb];rw[List.getElem?_take] at hu;split at hu
        ·rw[List.getElem?_drop] at hu;simpa using hu
        ·cases hu
      obtain⟨nv,Td,oC⟩:=Q0
      have QQ:nv.length=m * ei.size:=by rw[← Td.len,hlen]
      have Pm:∀u∈nv,u.oneCell'=true:=fun u hu=>by
       obtain⟨j,hj,rfl⟩:=List.getElem_of_mem hu
       exact Td.one j _ (by simp)
      split at h
      ·split at h
       ·rename_i hc;simp only[Option.some.injEq,Prod.mk.injEq] at h;obtain⟨rfl,rfl⟩:=h
        have:=iE hs
        subst this;obtain⟨v',w',hr,ho,hg,WQ⟩:=Eg (P:=P) (w:=w) (base:=w.heap.size) (ty:=ty) hT Ay Zz Rx zJ (Nat.le_refl _) (Fy (World.ownsRow_nil w _ e ei.size)) (p:=p) (c:=c) QQ oC Pm (by simpa using hc.2) (by simpa using hc.1)
        simp only[Nat.zero_add,List.nil_append] at ho;obtain⟨nC,S'⟩:=S.newRow d hd hg e ei.size m news nv v' ho Td
        exact⟨v',w',nC,hr,by rw[Option.map_none,kS];exact S'⟩
       ·cases h
      ·rename_i s' g'
       cases he:st.heap s' g' with
       | none=>simp[he] at h
       | some e' =>
         cases e' with
         | row e2 sz2 n cs =>
           simp only[he] at h;split at h
           ·rename_i hc;obtain⟨rfl,rfl,hb,h63⟩:=hc
            simp only[Option.some.injEq,Prod.mk.injEq] at h;obtain⟨rfl,rfl⟩:=h
            obtain⟨_,_,xs,ho,GJ⟩:=S.rZ s' g' _ he
            cases hs with
            | own _ _ hg1 ho1 =>
              obtain⟨v',w',hr,ho',hg,WQ⟩:=Eg (P:=P) (w:=w) (ty:=ty) hT Ay Zz Rx zJ S.ext.size ho (p:=p) (c:=c) QQ oC Pm h63 hb
              obtain⟨S',k,oJ⟩:=S.G2 he hg d (.row e2 ei.size (n+m) (cs++news)) v' (sO ho') WQ (fun C k=>⟨xs++nv,ho',(GJ.app Td).le k⟩)
              have bA:st.aO d<(ctx h0 w0 (tG ρ d (st.aO d) v') ((st.jE s' g' none).new d (.row e2 ei.size (n+m) (cs++news))) w').aO d:=by simp[ctx,St.new,St.jE]
              have kK:(ctx h0 w0 (tG ρ d (st.aO d) v') ((st.jE s' g' none).new d (.row e2 ei.size (n+m) (cs++news))) w').ρ d (st.aO d)=v':=oJ
              have:=cS.own (C:=ctx h0 w0 (tG ρ d (st.aO d) v') ((st.jE s' g' none).new d (.row e2 ei.size (n+m) (cs++news))) w') d (st.aO d) bA (by rw[kK];exact sO ho')
              rw[kK] at this;have hS:=S'.put (some d) (fun t ht=>by cases ht;exact hd) this
              exact⟨v',w',_,hr,by rw[Option.map_some,Qq];exact hS⟩
           ·cases h
         | _=>simp[he] at h
      ·rename_i n cs;split at h
       ·rename_i hc;obtain⟨c1,c2,c3,c4⟩:=hc
        simp only[Option.some.injEq,Prod.mk.injEq] at h;obtain⟨rfl,rfl⟩:=h
        have main:∀(q:Option Addr) (ys:List Value),sv=.slice q n n→fR (ctx h0 w0 ρ st w) cs ys→(ys≠[]→∃ad,q=some ad∧∀(j:Nat) (u:Value),ys[j]? = some u→w.cell? (ad.add j)=some u) →
         ∃v' w',(Builtin.append_ #[T,T] ty #[sv,.slice p m c]).run P w=.ok v' w'∧nD w' w.heap.size e ei.size v' (n+m) (ys++nv)∧w.grownBy w' none:=by
         rintro q ys rfl Te hcell'
         have hyl:ys.length=n * ei.size:=by rw[← Te.len,c1]
         by_cases hm:m=0
         ·have hn0:n=0:=by omega
          subst hm;subst hn0;have hy0:ys=[]:=List.eq_nil_of_length_eq_zero (by simpa using hyl)
          have hn0:nv=[]:=List.eq_nil_of_length_eq_zero (by simpa using QQ)
          subst hy0;subst hn0;obtain⟨v',w',hr,ho,hg,_⟩:=Eg (P:=P) (w:=w) (base:=w.heap.size) (ty:=ty) (v:=.slice q 0 0) (n:=0) (xs:=[]) hT Ay Zz Rx zJ (Nat.le_refl _) ⟨by simp,.inl ⟨q,rfl,rfl⟩⟩ (p:=p) (c:=c) QQ oC (by simp) c4 c3
          rw[pE] at hg;exact⟨v',w',hr,ho,hg⟩
         ·have gN:nv≠[]:=by
           intro h;rw[h] at QQ;have:0<m * ei.size:=Nat.mul_pos (by omega) zJ
           simp at QQ
           omega
          obtain⟨ad,rfl,Xj⟩:=oC gN
          have hlen':(ys++nv).length=(n+m) * ei.size:=by rw[List.length_append,hyl,QQ,Nat.add_mul]
          cases q with
          | none =>
            have hy0:ys=[]:=by
             by_cases h:ys=[]
             ·exact h
             ·obtain⟨ad,h1,_⟩:=hcell' h
              cases h1
            subst hy0;have hn0:n=0:=by
             rcases Nat.eq_zero_or_pos n with h|h
             ·exact h
             ·have:=Nat.mul_pos h zJ
              simp at hyl
              omega
            subst hn0;obtain⟨v',w',hr,ho,hg,_⟩:=Eg (P:=P) (w:=w) (base:=w.heap.size) (ty:=ty) (v:=.slice none 0 0) (n:=0) (xs:=[]) hT Ay Zz Rx zJ (Nat.le_refl _) ⟨by simp,.inl ⟨none,rfl,rfl⟩⟩ (p:=some ad) (c:=c) QQ oC Pm c4 c3
            rw[pE] at hg;exact⟨v',w',hr,ho,hg⟩
          | some ga =>
            have holds:∀(j:Nat) (u:Value),ys[j]? = some u→w.cell? (ga.add j)=some u:=fun j u hu=>by
             have hne':ys≠[]:=by intro h;rw[h] at hu;simp at hu
             obtain⟨ad',h1,h2⟩:=hcell' hne'
             cases h1
             exact h2 j u hu
            have hr:=run_append_grow (P:=P) w T ty e ei ez hT Ay Zz ga n n ys hyl holds ad m c nv QQ Xj (by omega) (by simp only[maxLen] at c4;omega) (growslice_fits (by omega) c3)
            have hge:=grownCap_ge w (n+m) n e
            have aFw:=grownCap_le_maxLen w (n+m) n e c4
            refine⟨_,_,hr,⟨hlen',.inr ⟨w.heap.size,_,_,rfl,Nat.le_refl _,heap_alloc_new w.drew _,hge,aFw, ?_, ?_,by omega⟩⟩,⟨rfl,rfl,rfl,by simp,fun k hk _=>heap_alloc_old w.drew _ hk⟩⟩
            ·simp only[Array.size_append,List.size_toArray,size_zeroCells,Rx,hyl,QQ,← Nat.add_mul];congr 1
             omega
            ·simp only[Array.toList_append,List.append_assoc];rw[← List.append_assoc,← hlen'];exact List.take_left
        have fin:∀(ys:List Value),fR (ctx h0 w0 ρ st w) cs ys→(∃v' w',(Builtin.append_ #[T,T] ty #[sv,.slice p m c]).run P w=.ok v' w'∧nD w' w.heap.size e ei.size v' (n+m) (ys++nv)∧w.grownBy w' none) →
         ∃v w' nC,(Builtin.append_ #[T,T] ty #[sv,.slice p m c]).run P w=.ok v w' ∧
          kA F h0 w0 nt nC (qR.apply { dst:=some d,val:=.own d (st.aO d),dJ:=(none:Option (Nat × Nat)).map fun p=>(p.1,p.2,none),new:=some (d,[.row e ei.size (n+m) (cs++news)])} st) (a.put (some d) v) w':=by
         rintro ys Te ⟨v',w',hr,ho,hg⟩
         obtain⟨nC,S'⟩:=S.newRow d hd hg e ei.size (n+m) (cs++news) (ys++nv) v' ho (Te.app Td)
         exact⟨v',w',nC,hr,by rw[Option.map_none,kS];exact S'⟩
        cases hs with
        | cl0 n q=>exact fin [] (.nil _) (main q [] rfl (.nil _) (by simp))
        | cl n cs b off arr T' fr hb hle hr CI =>
          have Az:fR (ctx h0 w0 ρ st w) cs ((arr.toList.drop off).take cs.length):=by
           refine⟨by simp;omega,fun i x y hx hy=>?_,fun i y hy=>?_⟩
           ·have hi:=(List.getElem?_eq_some_iff.1 hx).1
            rw[List.getElem?_take,if_pos hi,List.getElem?_drop] at hy;exact hr i x y hx (by simpa using hy)
           ·rw[List.getElem?_take] at hy;split at hy
            ·rename_i hi;rw[List.getElem?_drop] at hy;exact CI i y hi (by simpa using hy)
            ·cases hy
          refine fin _ Az (main _ _ rfl Az fun _=>⟨⟨b,off,none⟩,rfl,fun j u hu=>?_⟩)
          rw[lA,cell_of_row w b (off+j) arr T' fr hb.1];rw[List.getElem?_take] at hu;split at hu
          ·rw[List.getElem?_drop] at hu;simpa using hu
          ·cases hu
       ·cases h
      ·cases h
     ·cases h
theorem AN (S:kA F h0 w0 nt ρ st a w) {T ty:Nat} {s x:AV} {u:Nat × Nat × mI × Nat} {sv xv:Value} (h:jZ P st T s x=some u)
 (hs:cS (ctx h0 w0 ρ st w) s sv) (hx:cS (ctx h0 w0 ρ st w) x xv) :
 ∃v w',(Builtin.append_ #[T,T] ty #[sv,xv]).run P w=.ok v w'∧kA F h0 w0 nt ρ (st.jE u.1 u.2.1 (some u.2.2.1)) a w' ∧
  cS (ctx h0 w0 ρ (st.jE u.1 u.2.1 (some u.2.2.1)) w') (.vw u.1 u.2.1 0 u.2.2.2) v:=by
 unfold jZ at h;split at h
 ·rename_i e sz by_ m news s' g' k QT hv
  obtain⟨ei,ez,hT,Ay,Zz,rfl,Rx,rfl,zJ⟩:=jP QT
  cases he:st.heap s' g' with
  | none=>simp[he] at h
  | some en =>
    cases en with
    | row e' sY n cs =>
      simp only[he] at h;split at h
      ·rename_i hc;obtain⟨rfl,rfl,hlen,aBP⟩:=hc
       simp only[Option.some.injEq] at h;subst h;obtain⟨p,c,rfl,P9⟩:=sA S hv hx
       have Q0:∃nv:List Value,fR (ctx h0 w0 ρ st w) news nv∧(nv≠[]→∃ad,p=some ad∧∀(j:Nat) (u:Value),nv[j]? = some u→w.cell? (ad.add j)=some u):=by
        by_cases gN:news=[]
        ·subst gN;exact⟨[],.nil _,fun h=>absurd rfl h⟩
        ·obtain⟨b,off,arr,T',fr,hp,hb,hc⟩:=P9 gN
         refine⟨_,hc,fun _=>⟨_,hp,fun j u hu=>?_⟩⟩
         rw[lA,cell_of_row w b (off+j) arr T' fr hb];rw[List.getElem?_take] at hu;split at hu
         ·rw[List.getElem?_drop] at hu;simpa using hu
         ·cases hu
       obtain⟨nv,Td,oC⟩:=Q0
       have QQ:nv.length=m * ei.size:=by rw[← Td.len,hlen]
       have Pm:∀u∈nv,u.oneCell'=true:=fun u hu=>by
        obtain⟨j,hj,rfl⟩:=List.getElem_of_mem hu
        exact Td.one j _ (by simp)
       obtain⟨_,_,xs,ho,Az⟩:=S.rZ s' g' _ he
       cases hs with
       | vw _ _ _ _ b cap hg hb mJ xX =>
         have mZ:dB (ρ s' g')=some b:=hb
         rcases ho.2 with ⟨q,kK,hn⟩|⟨b',Zy,cur,kK,vW,hh,u4,p6,GJ,ht,pY⟩
         ·rw[kK,pE] at mZ;cases mZ
         ·have wE:b'=b:=by rw[kK,jT pY] at mZ;simpa using mZ
          subst wE;have hcc:cap=Zy:=xX rfl _ _ _ kK
          subst hcc;have hkm:(k+m) * ei.size≤n * ei.size:=Nat.mul_le_mul_right _ aBP
          have hnn:n * ei.size≤cap * ei.size:=Nat.mul_le_mul_right _ u4
          rw[Nat.add_mul] at hkm;have hcl':cur.toList.length=cur.size:=rfl
          have pN:(Builtin.append_ #[T,T] ty #[.slice (some ⟨b',0,none⟩) k cap,.slice p m c]).run P w=.ok (.slice (some ⟨b',0,none⟩) (k+m) cap) (w.setRow b' (cur.toList.take (k * ei.size)++nv++cur.toList.drop (k * ei.size+nv.length)).toArray):=by
           by_cases gN:nv=[]
           ·have hm:m=0:=by
             rw[gN] at QQ;rcases Nat.eq_zero_or_pos m with h|h
             ·exact h
             ·have:=Nat.mul_pos h zJ
              simp at QQ
              omega
            subst hm;have hfc:∀(x:Value),(∃p,x=.slice p 0 c)→(Builtin.firstCells ei.size 0 x).run P w=.ok #[] w:=by
             rintro x ⟨p,rfl⟩
             cases p<;>simp[Builtin.firstCells,loadCells,loadCellsFrom]
            have e0:(cur.toList.take (k * ei.size)++nv++cur.toList.drop (k * ei.size+nv.length)).toArray=cur:=by
             rw[gN];simp
            rw[e0,setRow_self w b' cur e' (0,0) hh];have hkc:k≤cap:=by omega
            simp[Builtin.append_,aX hT,run_sizeOf w Ay,Builtin.lenOf,hfc _ ⟨p,rfl⟩,storeCells,hkc]
           ·obtain⟨ad,rfl,Xj⟩:=oC gN
            exact run_append_room (P:=P) w T ty e' ei hT Ay b' k cap cur hh ad m c nv QQ Xj Pm (by omega) (by omega)
          have hxl:=ho.1
          have hcsl:=Az.len
          have S':=S.store (e':=.row e' ei.size n (cs.take (k * ei.size)++news++cs.drop (k * ei.size+m * ei.size))) (w':=w.setRow b' (cur.toList.take (k * ei.size)++nv++cur.toList.drop (k * ei.size+nv.length)).toArray) he mZ ⟨rfl,rfl,rfl,by simp,fun j _ hj=>setRow_other w b' j _ (fun e=>hj (by rw[e]))⟩ (fun C kC=>by
           refine⟨xs.take (k * ei.size)++nv++xs.drop (k * ei.size+m * ei.size),⟨by simp;omega,.inr ⟨b',cap,_,kK,vW,setRow_heap w b' cur _ e' (0,0) hh,u4,p6,by simp;omega, ?_,pY⟩⟩,(((Az.take _).app Td).app (Az.drop _)).le kC⟩
           simp only
           rw[← ht,QQ];have l1:(cur.toList.take (k * ei.size)++nv).length=k * ei.size+m * ei.size:=by simp;omega
           rw[List.take_append,l1,List.take_of_length_le (by omega),List.drop_take,List.take_take,Nat.min_eq_left (by omega)])
          exact⟨_,_,pN,S',.vw s' g' 0 _ b' cap hg hb (by show k+m≤cap;omega) (fun _=>xX rfl)⟩
      ·cases h
    | _=>simp[he] at h
 ·cases h
theorem MU (S:kA F h0 w0 nt ρ st a w) {T ty:Nat} {x:AV} {u:Option (Nat × Nat × mI)} {xv:Value} (h:tD P st T x=some u) (hx:cS (ctx h0 w0 ρ st w) x xv) :
 ∃w',(Builtin.clear_ #[T] ty #[xv]).run P w=.ok (.tuple #[]) w'∧kA F h0 w0 nt ρ (match u with|some p=>st.jE p.1 p.2.1 (some p.2.2)|none=>st) a w':=by
 unfold tD at h;split at h
 ·rename_i e sz by_ s g o k QT _;obtain⟨ei,ez,hT,Ay,Zz,rfl,Rx,rfl,zJ⟩:=jP QT
  split at h
  ·rename_i z e' sY n cs hz he
   split at h
   ·rename_i hc;obtain⟨rfl,rfl,aBP⟩:=hc
    simp only[Option.some.injEq] at h;subst h;obtain⟨i',zv,Bx,JT,rfl,G5⟩:=yA hz
    rw[Ay] at Bx
    cases Bx
    rw[Zz] at JT;cases JT
    obtain⟨_,_,xs,ho,Az⟩:=S.rZ s g _ he
    cases hx with
    | vw _ _ _ _ b cap hg hb mJ xX =>
      have mZ:dB (ρ s g)=some b:=hb
      rcases ho.2 with ⟨q,kK,hn⟩|⟨b',Zy,cur,kK,vW,hh,u4,p6,GJ,ht,pY⟩
      ·rw[kK,pE] at mZ;cases mZ
      ·have wE:b'=b:=by rw[kK,jT pY] at mZ;simpa using mZ
       subst wE;have hxl:=ho.1
       have hcsl:=Az.len
       have hnn:n * ei.size≤Zy * ei.size:=Nat.mul_le_mul_right _ u4
       have hcl':cur.toList.length=cur.size:=rfl
       have TN:(Builtin.zeroCells ez.cells k).toList=(List.range k).flatMap fun _=>ez.cells.toList:=by
        unfold Builtin.zeroCells;rw[← Hc]
       have hzl:((List.range k).flatMap fun _=>ez.cells.toList).length=k * ei.size:=by
        rw[← TN,Array.length_toList,size_zeroCells,Rx]
       have hz1':∀v∈(List.range k).flatMap fun _=>ez.cells.toList,v.oneCell'=true:=fun v hv=>by
        obtain⟨_,_,hv⟩:=List.mem_flatMap.1 hv
        exact G5 v hv
       have tX:=run_storeCells_at P b' o e' ((List.range k).flatMap fun _=>ez.cells.toList) 0 cur w hh (by rw[hzl];omega) hz1'
       simp only[Nat.add_zero] at tX;have S':=S.store (e':=.row e' ei.size n (cs.take o++((List.range k).flatMap fun _=>ez.cells.toList.map .v)++cs.drop (o+k * ei.size))) (w':=w.setRow b' (cur.toList.take o++((List.range k).flatMap fun _=>ez.cells.toList)++cur.toList.drop (o+((List.range k).flatMap fun _=>ez.cells.toList).length)).toArray) he mZ ⟨rfl,rfl,rfl,by simp,fun j _ hj=>setRow_other w b' j _ (fun e=>hj (by rw[e]))⟩ (fun C kC=>by
        refine⟨xs.take o++((List.range k).flatMap fun _=>ez.cells.toList)++xs.drop (o+k * ei.size),⟨by rw[List.length_append,List.length_append,hzl];simp;omega,.inr ⟨b',Zy,_,kK,vW,setRow_heap w b' cur _ e' (0,0) hh,u4,p6,by rw[List.size_toArray,List.length_append,List.length_append,hzl];simp;omega, ?_,pY⟩⟩,(((Az.take _).le kC).app (It G5 k)).app ((Az.drop _).le kC)⟩
        simp only
        rw[← ht,hzl];have l1:(cur.toList.take o++((List.range k).flatMap fun _=>ez.cells.toList)).length=o+k * ei.size:=by rw[List.length_append,hzl];simp;omega
        rw[List.take_append,l1,List.take_of_length_le (by omega),List.drop_take,List.take_take,Nat.min_eq_left (by omega)])
       refine⟨_, ?_,S'⟩
       have hzv:(zeroValue e').run P w=.ok ez w:=by simp[zeroValue,typeInfo,Ay,Zz]
       cases k with
       | zero =>
         have e0:(cur.toList.take o++((List.range 0).flatMap fun _=>ez.cells.toList)++cur.toList.drop (o+((List.range 0).flatMap fun _=>ez.cells.toList).length)).toArray=cur:=by simp
         rw[e0,setRow_self w b' cur e' (0,0) hh];simp[Builtin.clear_,aX hT]
       | succ k =>
         have hst2:(storeCells ⟨b',o,none⟩ (Builtin.zeroCells ez.cells (k+1)).toList).run P w=.ok () (w.setRow b' (cur.toList.take o++((List.range (k+1)).flatMap fun _=>ez.cells.toList)++cur.toList.drop (o+((List.range (k+1)).flatMap fun _=>ez.cells.toList).length)).toArray):=by rw[TN];exact tX
         obtain⟨W,hW⟩:∃W,w.setRow b' (cur.toList.take o++((List.range (k+1)).flatMap fun _=>ez.cells.toList)++cur.toList.drop (o+((List.range (k+1)).flatMap fun _=>ez.cells.toList).length)).toArray=W:=⟨_,rfl⟩
         rw[hW] at hst2;rw[hW];simp[Builtin.clear_,aX hT,hzv,hst2]
   ·cases h
  ·cases h
 ·rename_i t cs QT _;simp only[Option.some.injEq] at h;subst h;obtain⟨e,sz,by_⟩:=t
  obtain⟨ei,ez,hT,_⟩:=jP QT
  refine⟨w, ?_,S⟩
  cases hx with
  | JP n cap p mJ=>cases p<;>simp[Builtin.clear_,aX hT]
  | sl n cs b off cap arr T fr mJ hb hle hr h1=>simp[Builtin.clear_,aX hT]
 ·rename_i t QT _;simp only[Option.some.injEq] at h;subst h;obtain⟨e,sz,by_⟩:=t
  obtain⟨ei,ez,hT,_⟩:=jP QT
  have:=iE hx
  subst this;exact⟨w,by simp[Builtin.clear_,aX hT],S⟩
 ·cases h
theorem TO {C:Ctx} {x:AV} {v:Value} {g:Nat} {oI:List AV} (h:EH x=some (g,oI)) (hr:cS C x v):∃cv,v=.func (.func g) #[] cv∧kX C oI cv.toList:=by
 unfold EH at h;split at h
 ·split at h
  ·rename_i hc;obtain⟨rfl,rfl⟩:=hc
   simp only[Option.some.injEq,Prod.mk.injEq] at h;obtain⟨rfl,rfl⟩:=h
   have:=iE hr
   subst this;exact⟨#[],rfl,.nil C⟩
  ·cases h
 ·simp only[Option.some.injEq,Prod.mk.injEq] at h;obtain⟨rfl,rfl⟩:=h
  cases hr with
  | Bp f cs a hl hr=>exact⟨a,rfl,by simpa using hl,fun i x y hx hy=>hr i x y hx (by simpa using hy)⟩
 ·cases h
variable [Ext]
theorem AO (S:kA F h0 w0 nt ρ st a w) {call:Nat→List AV→Option AV} (jU:qP P call) {o:Oper} {c:Call} (pQ:o.op=.call c) {e:qR}
 (h:iA P call c o.dst st=some e) (hd:∀d,o.dst=some d→d<nt)
 (hK:∀nC a' w',kA F h0 w0 nt nC (e.apply st) a' w'→K a' w'):o.wp P a w K Q:=by
 have vY:kX (ctx h0 w0 ρ st w) (c.args.toList.map st.ev) (c.args.toList.map a.eval):=kX.map _ _ _ fun p _=>S.ev p
 unfold iA at h;split at h
 ·rename_i f hf;have fin:∀g cv,a.eval f=.func (.func g) #[] cv→(Gz P g∧Calls P g (c.args.map a.eval++cv) w fun en w'=>∃v,en=.returned v∧K (a.put o.dst v) w')→o.wp P a w K Q:=by
   rintro g cv hv ⟨⟨fn,aFx,Q1,Q2⟩,TP⟩
   have hnb:fn.body.isNone=false:=by
    cases hb:fn.body<;>simp[hb] at Q2 ⊢
   have Pm : ¬ fn.name = "runtime.NumGoroutine" := by simpa using Q1
   have hn2:¬fn.body=none:=by intro h;simp[h] at hnb
   have pN:(execOp a.eval o).run P w=.ok (.enter g (c.args.map a.eval++cv)) w:=by
    simp[execOp,pQ,resolve,hf,hv,Deferred.ofValue,invoke,callFunc,aFx,Pm,hn2]
   unfold Oper.wp;rw[pN,Oper.upon_enter];refine TP.mono ?_
   rintro en w' ⟨v,rfl,hk⟩
   exact hk
  have gen:∀g oI,EH (st.ev f)=some (g,oI)→aP call g (c.args.toList.map st.ev++oI) st o.dst=some e→o.wp P a w K Q:=by
   intro g oI hfn h;obtain⟨cv,hv,hcaps⟩:=TO hfn (S.ev f)
   have fQ:kX (ctx h0 w0 ρ st w) (c.args.toList.map st.ev++oI) (c.args.map a.eval++cv).toList:=by
    simpa using vY.app hcaps
   exact fin g cv hv (Ef S jU h fQ hd hK)
  unfold mX at h;split at h
  ·rename_i g;split at h
   ·refine fin g #[] rfl ?_
    exact GL S jU h (by simpa using vY) hd hK
   ·split at h
    ·refine fin g #[] rfl ?_
     exact AM S jU h (by simpa using vY) hd hK
    ·exact gen g [] rfl (by simpa using h)
  ·split at h
   ·rename_i g oI hfn;exact gen g oI hfn h
   ·cases h
 ·rename_i hf;split at h
  ·rename_i x T hx hT;cases hs:dK P T with
   | none=>simp[hs] at h
   | some t =>
     cases hv:aQ st (st.ev x) with
     | none=>simp[hs,hv] at h
     | some nc =>
       obtain⟨n,cs⟩:=nc
       simp only[hs,hv,Option.some.injEq] at h;subst h;obtain⟨p,cap,Q3,_⟩:=sA S hv (S.ev x)
       obtain⟨e,sz,by_⟩:=t
       obtain⟨ei,ez,hu,_⟩:=jP hs
       have ha:c.args=#[x]:=by apply Array.ext';simpa using hx
       have ht:c.argTypes=#[T]:=by apply Array.ext';simpa using hT
       refine upon_value (v:=.int .i64 n) ?_ (hK ρ _ w (S.put o.dst hd (.v _)))
       simp[execOp,pQ,resolve,hf,ha,ht,invoke,builtin,Builtin.len_,Q3,aX hu,goInt]
  ·cases h
 ·rename_i hf;split at h
  ·rename_i x y hx;split at h
   ·rename_i k p k' q h1 h2
    simp only[Option.some.injEq] at h;subst h;have e1:=S.ev x
    rw[h1] at e1;have e1:=iE e1
    have e2:=S.ev y
    rw[h2] at e2;have e2:=iE e2
    have ha:c.args=#[x,y]:=by apply Array.ext';simpa using hx
    refine upon_value (v:=.int k (if q<p then q else p)) ?_ (hK ρ _ w (S.put o.dst hd (.v _)))
    simp[execOp,pQ,resolve,hf,ha,invoke,builtin,Builtin.min_,Builtin.min2,e1,e2]
   ·cases h
  ·cases h
 ·rename_i hf;split at h
  ·rename_i x y hx;split at h
   ·rename_i k p k' q h1 h2
    simp only[Option.some.injEq] at h;subst h;have e1:=S.ev x
    rw[h1] at e1;have e1:=iE e1
    have e2:=S.ev y
    rw[h2] at e2;have e2:=iE e2
    have ha:c.args=#[x,y]:=by apply Array.ext';simpa using hx
    refine upon_value (v:=.int k (if q > p then q else p)) ?_ (hK ρ _ w (S.put o.dst hd (.v _)))
    simp[execOp,pQ,resolve,hf,ha,invoke,builtin,Builtin.max_,Builtin.max2,e1,e2]
   ·cases h
  ·cases h
 ·rename_i hf;cases kN:o.dst with
  | none=>simp[kN,cH] at h
  | some d =>
  simp only[kN,cH] at h;split at h
  ·rename_i s x T T' hx hT
   split at h
   ·rename_i hTT;subst hTT;split at h
    ·cases mT:jZ P st T (st.ev s) (st.ev x) with
     | none=>simp[mT] at h
     | some u =>
     simp only[mT,Option.map_some,Option.some.injEq] at h;subst h;obtain⟨v,w',hr,S',hv⟩:=AN (ty:=o.type) S mT (S.ev s) (S.ev x)
     have ha:c.args=#[s,x]:=by apply Array.ext';simpa using hx
     have ht:c.argTypes=#[T,T]:=by apply Array.ext';simpa using hT
     rw[kN] at hd;have hk:=hK ρ _ w' (S'.put (some d) hd hv)
     unfold Oper.wp;simp only[execOp,pQ,resolve,hf,ha,ht,invoke,builtin];simp[hr]
     unfold Oper.upon;rw[kN];exact hk
    split at h
    ·rename_i hpa;obtain⟨_,hs0,QT,hv'⟩:=hpa
     obtain⟨⟨_,cs⟩,hv,hv0⟩:=Option.map_eq_some_iff.1 hv'
     simp only at hv0
     subst hv0;simp only[Option.some.injEq] at h;subst h;have e1:=S.ev s
     rw[hs0] at e1;have e1:=iE e1
     obtain⟨q,c',hxv,_⟩:=sA S hv (S.ev x)
     cases hsi:dK P T with
     | none=>rw[hsi] at QT;cases QT
     | some t =>
     obtain⟨e,sz,by_⟩:=t
     obtain⟨ei,ez,hT',Ay,_⟩:=jP hsi
     have hz:∀w:World,(Builtin.firstCells ei.size 0 (.slice q 0 c')).run P w=.ok ([]:List Value).toArray w:=fun w=>by cases q<;>simp[Builtin.firstCells,loadCells,loadCellsFrom]
     have hr:(Builtin.append_ #[T,T] o.type #[.slice none 0 0,.slice q 0 c']).run P w=.ok (.slice none 0 0) w:=run_append_nothing w T T o.type e ei hT' Ay none 0 0 (Nat.le_refl _) _ ⟨.inl ⟨e,hT'⟩,fun w'=>by simp[Builtin.lenOf],hz _,hz _,by simp,by simp⟩
     have ha:c.args=#[s,x]:=by apply Array.ext';simpa using hx
     have ht:c.argTypes=#[T,T]:=by apply Array.ext';simpa using hT
     rw[kN] at hd;refine upon_value (v:=.slice none 0 0) ?_ (by rw[kN];exact hK ρ _ w (S.put (some d) hd (.v _)))
     simp[execOp,pQ,resolve,hf,ha,ht,invoke,builtin,e1,hxv,hr]
    cases mT:cX P st T (st.ev s) (st.ev x) with
    | none=>simp[mT] at h
    | some ur =>
      obtain⟨u,r⟩:=ur
      simp only[mT,Option.some.injEq] at h;subst h;obtain⟨v,w',nC,hr,S'⟩:=GN (ty:=o.type) S (hd d kN) mT (S.ev s) (S.ev x)
      have ha:c.args=#[s,x]:=by apply Array.ext';simpa using hx
      have ht:c.argTypes=#[T,T]:=by apply Array.ext';simpa using hT
      have hk:=hK nC _ w' S'
      unfold Oper.wp;simp only[execOp,pQ,resolve,hf,ha,ht,invoke,builtin];simp[hr]
      unfold Oper.upon;rw[kN];exact hk
   ·cases h
  ·cases h
 ·rename_i hf;split at h
  ·rename_i x T hx hT;cases mT:tD P st T (st.ev x) with
   | none=>simp[mT] at h
   | some u =>
     simp only[mT,Option.map_some,Option.some.injEq] at h;subst h;obtain⟨w',hr,S'⟩:=MU (ty:=o.type) S mT (S.ev x)
     have ha:c.args=#[x]:=by apply Array.ext';simpa using hx
     have ht:c.argTypes=#[T]:=by apply Array.ext';simpa using hT
     have hk:=hK ρ (a.put o.dst (.tuple #[])) w' (by
      have:=S'.put o.dst hd (x:=.eB []) (v:=.tuple #[]) (.eB [] #[] rfl (by simp))
      cases u with
      | none=>exact this
      | some p=>exact this)
     unfold Oper.wp;simp only[execOp,pQ,resolve,hf,ha,ht,invoke,builtin];simp[hr]
     unfold Oper.upon;exact hk
  ·cases h
 ·cases h
theorem Si (S:kA F h0 w0 nt ρ st a w) {call:Nat→List AV→Option AV} (jU:qP P call) {o:Oper} {e:qR} (h:dH P call o st=some e) (hd:∀d,o.dst=some d→d<nt)
 (hK:∀nC a' w',kA F h0 w0 nt nC (e.apply st) a' w'→K a' w'):o.wp P a w K Q:=by
 unfold dH at h;split at h
 ·rename_i T pQ;cases kN:o.dst with
  | none=>simp[kN,cH] at h
  | some d =>
    cases hz:dS P T with
    | none=>simp[kN,hz,cH] at h
    | some z =>
      simp only[kN,hz,cH,Option.some.injEq] at h;subst h;obtain⟨i,zv,hi,JT,rfl,G5⟩:=yA hz
      obtain⟨nC,S'⟩:=S.newVar d (hd d kN) (zv.cells.toList.map .v) zv.cells T (fR.vs _ _ G5)
      refine upon_value (v:=.pointer (some ⟨w.heap.size,0,none⟩)) (w':=w.alloc (.cells zv.cells T)) ?_ (by rw[kN];exact hK nC _ _ (by rw[kS];exact S'))
      simp only[execOp,pQ,Instr.alloc];simp[Aw w hi JT,Go.newVar,Go.newRow]
 ·rename_i T x pQ;cases kN:o.dst with
  | none=>simp[kN,cH] at h
  | some d =>
    simp only[kN,cH] at h;split at h
    ·rename_i tX;simp only[Option.some.injEq] at h;subst h;obtain⟨nC,S'⟩:=S.newVar d (hd d kN) (st.ev x).cells (a.eval x).cells T ((S.ev x).cells tX)
     refine upon_value (v:=.pointer (some ⟨w.heap.size,0,none⟩)) (w':=w.alloc (.cells (a.eval x).cells T)) ?_ (by rw[kN];exact hK nC _ _ (by rw[kS];exact S'))
     simp only[execOp,pQ,Instr.box];simp[Go.newVar,Go.newRow]
    ·cases h
 ·rename_i T n parts pQ;cases kN:o.dst with
  | none=>simp[kN,cH] at h
  | some d =>
    cases hs:dK P T with
    | none=>simp[kN,hs,cH] at h
    | some t =>
      obtain⟨e',sz,by_⟩:=t
      cases hz:dS P e' with
      | none=>simp[kN,hs,hz,cH] at h
      | some z =>
        simp only[kN,hs,hz,cH] at h;split at h
        ·rename_i hc;obtain⟨c1,c2,c3⟩:=hc
         cases hf:gJ (fun i=>some (i * sz,sz)) ((List.range n).flatMap fun _=>z.map .v) (parts.toList.map fun p=>(p.1,st.ev p.2)) with
         | none=>simp[hf] at h
         | some cs =>
           simp only[hf,Option.some.injEq] at h;subst h;obtain⟨v,w',xs,hr,hg,ho,oC⟩:=Qp S hs hz c1 c2 c3 hf
           obtain⟨nC,S'⟩:=S.newRow d (hd d kN) hg e' sz n cs xs v ho oC
           refine upon_value (v:=v) (w':=w') ?_ (by rw[kN];exact hK nC _ _ (by rw[kS];exact S'))
           simp only[execOp,pQ];rw[dF hr];rfl
        ·cases h
 ·rename_i T l c pQ;cases kN:o.dst with
  | none=>simp[kN,cH] at h
  | some d =>
    cases hs:dK P T with
    | none=>simp[kN,hs,cH] at h
    | some t =>
      obtain⟨e',sz,by_⟩:=t
      cases hz:dS P e' with
      | none=>simp[kN,hs,hz,cH] at h
      | some z =>
        simp only[kN,hs,hz,cH] at h;split at h
        ·rename_i n m hl hc;split at h
         ·rename_i G4;obtain⟨c1,rfl,c3,c4⟩:=G4
          simp only[Option.some.injEq] at h;subst h;obtain⟨k,rfl⟩:∃k:Nat,n=k:=⟨n.toNat,by omega⟩
          obtain⟨v,w',xs,hr,hg,ho,oC⟩:=Tf (w:=w) (ctx h0 w0 ρ st w) hs hz (n:=k) (by
           have:((k * by_:Nat):Int)≤140737488355328:=by rw[Int.natCast_mul];exact c3
           omega) (by omega)
          obtain⟨nC,S'⟩:=S.newRow d (hd d kN) hg e' sz k _ xs v ho oC
          simp only[Int.toNat_natCast] at hK;refine upon_value (v:=v) (w':=w') ?_ (by rw[kN];exact hK nC _ _ (by rw[kS];exact S'))
          have e1:=S.ev l
          rw[hl] at e1;have e1:=iE e1
          have e2:=S.ev c
          rw[hc] at e2;have e2:=iE e2
          simp only[execOp,pQ,e1,e2];rw[dF hr];rfl
         ·cases h
        ·cases h
 ·rename_i T x y pQ;cases hs:pI P st T (st.ev x) (st.ev y) with
  | none=>simp[hs] at h
  | some u =>
    obtain⟨s,g,e'⟩:=u
    simp only[hs,Option.map_some,Option.some.injEq] at h;subst h;obtain⟨w',hr,S'⟩:=MT S hs (S.ev x) (S.ev y)
    have hk:=hK ρ _ w' (S'.put o.dst hd (.v undef))
    unfold Oper.wp;simp only[execOp,pQ];rw[dF hr];exact hk
 ·rename_i T pQ;cases kN:o.dst with
  | none=>simp[kN,cH] at h
  | some d =>
    simp only[kN,cH,Option.some.injEq] at h;subst h;obtain⟨S',k,oJ⟩:=S.new (World.grownBy_alloc w (.map #[] 0) none) d (.map []) (.map (some w.heap.size)) rfl (fun b hb=>by simp[dB] at hb;omega)
     (fun C k _=>⟨w.heap.size,#[],0,rfl,S.ext.size,heap_alloc_new w _,trivial⟩)
    have bA:st.aO d<(ctx h0 w0 (tG ρ d (st.aO d) (.map (some w.heap.size))) (st.new d (.map [])) (w.alloc (.map #[] 0))).aO d:=by simp[ctx,St.new]
    have kK:(ctx h0 w0 (tG ρ d (st.aO d) (.map (some w.heap.size))) (st.new d (.map [])) (w.alloc (.map #[] 0))).ρ d (st.aO d)=.map (some w.heap.size):=oJ
    have:=cS.mp (C:=ctx h0 w0 (tG ρ d (st.aO d) (.map (some w.heap.size))) (st.new d (.map [])) (w.alloc (.map #[] 0))) d (st.aO d) bA (by rw[kK];rfl)
    rw[kK] at this;have hS:=S'.put (some d) (fun t ht=>by cases ht;exact hd d kN) this
    refine upon_value (v:=.map (some w.heap.size)) (w':=w.alloc (.map #[] 0)) ?_ (by rw[kN];exact hK _ _ _ (by rw[kS];exact hS))
    simp only[execOp,pQ,Option.map_none];rfl
 ·rename_i T m x y pQ;cases hs:tC P st T (st.ev m) (st.ev x) (st.ev y) with
  | none=>simp[hs] at h
  | some u =>
    obtain⟨s,g,e'⟩:=u
    simp only[hs,Option.map_some,Option.some.injEq] at h;subst h;obtain⟨w',hr,S'⟩:=GF S hs (S.ev m) (S.ev x) (S.ev y)
    have hk:=hK ρ _ w' (S'.put o.dst hd (.v undef))
    unfold Oper.wp;simp only[execOp,pQ];rw[dF hr];exact hk
 ·rename_i c pQ;exact AO S jU pQ h hd hK
 ·cases hv:iP P st o.op with
  | none=>simp[hv] at h
  | some x =>
    simp only[hv,Option.map_some,Option.some.injEq] at h;subst h;obtain⟨v,hr,fQ⟩:=MN S hv
    exact upon_value hr (hK ρ _ w (S.put o.dst hd fQ))
end
end Go.Ab
end
section
namespace Go.Ab
open Classical
def lX (aO:Nat→Nat) (x:AV):Prop:=∃(C:Ctx) (v:Value),C.aO=aO∧cS C x v
theorem lX.ptr {aO:Nat→Nat} {s g o:Nat} (h:lX aO (.ptr s g o)):g<aO s:=by
 obtain⟨C,v,rfl,h⟩:=h
 cases h with
 | ptr s g off b hg hb=>exact hg
theorem lX.own {aO:Nat→Nat} {s g:Nat} (h:lX aO (.own s g)):g<aO s:=by
 obtain⟨C,v,rfl,h⟩:=h
 cases h with
 | own s g hg _=>exact hg
theorem lX.vw {aO:Nat→Nat} {s g o n:Nat} (h:lX aO (.vw s g o n)):g<aO s:=by
 obtain⟨C,v,rfl,h⟩:=h
 cases h with
 | vw s g o n b cap hg _ _ _=>exact hg
theorem lX.mp {aO:Nat→Nat} {s g:Nat} (h:lX aO (.mp s g)):g<aO s:=by
 obtain⟨C,v,rfl,h⟩:=h
 cases h with
 | mp s g hg _=>exact hg
theorem lX.agg {aO:Nat→Nat} {cs:List AV} (h:lX aO (.agg cs)):∀c∈cs,lX aO c:=by
 obtain⟨C,v,rfl,h⟩:=h
 cases h with
 | agg cs a hl hr _ =>
   intro c hc;obtain⟨i,hi,rfl⟩:=List.getElem_of_mem hc
   exact⟨C,a[i],rfl,hr i _ _ (by simp[hi]) (by simp)⟩
theorem lX.Bp {aO:Nat→Nat} {f:Nat} {cs:List AV} (h:lX aO (.Bp f cs)):∀c∈cs,lX aO c:=by
 obtain⟨C,v,rfl,h⟩:=h
 cases h with
 | Bp f cs a hl hr =>
   intro c hc;obtain⟨i,hi,rfl⟩:=List.getElem_of_mem hc
   exact⟨C,a[i]'(by omega),rfl,hr i _ _ (by simp[hi]) (by simp)⟩
section
variable {P:Program} {call:Nat→List AV→Option AV} {st st':St}
def pO (st st':St):Prop:=∀s g,g<st.aO s→st'.heap s g=st.heap s g
theorem GO {x:AV} (hx:lX st.aO x) (hh:pO st st'):pX st' x=pX st x:=by
 cases x<;>simp only[pX]
 rw[hh _ _ hx.ptr]
theorem sB {x:AV} (hx:lX st.aO x) (hh:pO st st'):aQ st' x=aQ st x:=by
 cases x
 case own=>simp only[aQ,hh _ _ hx.own]
 case vw=>simp only[aQ,hh _ _ hx.vw]
 case v y =>
  cases y
  case slice p n c=>cases p<;>cases n<;>cases c<;>rfl
  all_goals rfl
 all_goals rfl
theorem Qr {T:Nat} {x i:AV} (hx:lX st.aO x) (hh:pO st st'):bB P st' T x i=bB P st T x i:=by
 unfold bB;cases x<;>try rfl
 simp only[hh _ _ hx.own]
theorem Xk {T:Nat} {x:AV} {lo hi:Option Operand} (hx:∀s g,((∃o,x=.ptr s g o)∨x=.own s g∨∃o n,x=.vw s g o n)→st'.heap s g=st.heap s g) (hl:∀p,lo=some p→st'.ev p=st.ev p) (Bx:∀p,hi=some p→st'.ev p=st.ev p):cU P st' T x lo hi=cU P st T x lo hi:=by
 unfold cU;cases dK P T with
 | none =>
   simp only
   cases jB P T with
   | none=>rfl
   | some na =>
     cases x<;>try rfl
     rename_i s g o;cases lo<;>cases hi<;>try rfl
     simp only[hx s g (.inl ⟨o,rfl⟩)]
 | some t =>
   simp only
   cases x<;>try rfl
   case v y =>
    cases y<;>try rfl
    rename_i p n c;cases p<;>cases n<;>cases c<;>try rfl
    cases lo with
    | none=>cases hi with
      | none=>rfl
      | some h=>simp only[Bx h rfl]
    | some l=>cases hi with
      | none=>simp only[hl l rfl]
      | some h=>simp only[hl l rfl,Bx h rfl]
   case sl n cs =>
    cases lo with
    | none=>cases hi with
      | none=>rfl
      | some h=>simp only[Bx h rfl]
    | some l=>cases hi with
      | none=>simp only[hl l rfl]
      | some h=>simp only[hl l rfl,Bx h rfl]
   case own s g =>
    simp only[hx s g (.inr (.inl rfl))];cases lo with
    | none=>cases hi with
      | none=>rfl
      | some h=>simp only[Bx h rfl]
    | some l=>cases hi with
      | none=>simp only[hl l rfl]
      | some h=>simp only[hl l rfl,Bx h rfl]
   case vw s g o n =>
    cases o with
    | succ o=>rfl
    | zero =>
      simp only[hx s g (.inr (.inr ⟨_,_,rfl⟩))];cases st.heap s g with
      | none=>rfl
      | some e=>cases e with
        | row e' sY n' Dd =>
          cases lo with
          | none=>cases hi<;>rfl
          | some l=>cases hi with
            | none=>rfl
            | some h=>simp only[hl l rfl,Bx h rfl]
        | _=>rfl
theorem GP {T:Nat} {x:AV} {lo hi:Option Operand} (hx:lX st.aO x) (hh:pO st st') (hl:∀p,lo=some p→st'.ev p=st.ev p) (Bx:∀p,hi=some p→st'.ev p=st.ev p):cU P st' T x lo hi=cU P st T x lo hi :=
 Xk (fun s g h=>by
  rcases h with ⟨o,rfl⟩|rfl|⟨o,n,rfl⟩
  ·exact hh _ _ hx.ptr
  ·exact hh _ _ hx.own
  ·exact hh _ _ hx.vw) hl Bx
def AP (st:St):Prop:=∀s g cs,st.heap s g=some (.cells cs)→∀c∈cs,lX st.aO c
theorem MV {x:AV} (hx:lX st.aO x) (hh:pO st st'):wQ st' x=wQ st x:=by
 unfold wQ;cases x<;>try rfl
 ·simp only[hh _ _ hx.own]
 ·simp only[hh _ _ hx.vw]
theorem Hd (hp:AP st) {x:AV} (hx:lX st.aO x) (hh:pO st st'):cI st' x=cI st x:=by
 unfold cI;cases x<;>try rfl
 ·rename_i s g o;simp only[hh _ _ hx.ptr];cases he:st.heap s g with
  | none=>rfl
  | some e =>
    cases e with
    | cells cs =>
      have:cs.map (wQ st')=cs.map (wQ st):=List.map_congr_left fun c hc=>MV (hp s g cs he c hc) hh
      simp only[this]
    | _=>rfl
 ·simp only[hh _ _ hx.own]
 ·simp only[hh _ _ hx.vw]
theorem Xl (hp:AP st) {x:AV} (hx:lX st.aO x) (hh:pO st st'):eT st' x=eT st x:=by
 unfold eT;cases x<;>try (simp only[Hd hp hx hh];done)
 ·rename_i cs;have:cs.map (cI st')=cs.map (cI st):=List.map_congr_left fun c hc=>Hd hp (hx.agg c hc) hh
  simp only[this]
 ·rename_i f cs;have:cs.map (cI st')=cs.map (cI st):=List.map_congr_left fun c hc=>Hd hp (hx.Bp c hc) hh
  simp only[this]
theorem GQ {T:Nat} {x y:AV} (hx:lX st.aO x) (hh:pO st st'):pI P st' T x y=pI P st T x y:=by
 unfold pI;cases x<;>try rfl
 simp only[hh _ _ hx.ptr]
theorem AQ {T:Nat} {s x:AV} (hs:lX st.aO s) (hx:lX st.aO x) (hh:pO st st'):cX P st' T s x=cX P st T s x:=by
 unfold cX;simp only[sB hx hh];cases s
 case own=>simp only[hh _ _ hs.own]
 case v y =>
  cases y
  case slice p n c=>cases p<;>cases n<;>cases c<;>rfl
  all_goals rfl
 all_goals rfl
theorem AR {T:Nat} {s x:AV} (hs:lX st.aO s) (hx:lX st.aO x) (hh:pO st st'):jZ P st' T s x=jZ P st T s x:=by
 unfold jZ;rw[sB hx hh];cases dK P T with
 | none=>rfl
 | some t=>cases aQ st x with
   | none=>rfl
   | some mn =>
     cases s<;>try rfl
     case vw s g o n =>
      cases o with
      | zero=>simp only[hh _ _ hs.vw]
      | succ o=>rfl
theorem GR {T:Nat} {x:AV} (hx:lX st.aO x) (hh:pO st st'):tD P st' T x=tD P st T x:=by
 unfold tD;cases dK P T with
 | none=>rfl
 | some t =>
   cases x<;>try rfl
   case vw s g o n=>simp only[hh _ _ hx.vw]
   case v y =>
    cases y<;>try rfl
    rename_i p n c;cases p<;>cases n<;>cases c<;>rfl
   case sl n cs=>cases n<;>rfl
theorem Sj {T:Nat} {x:AV} {lo:Option Operand} {hi mx:Operand} (hx:∀s g,x=.own s g→st'.heap s g=st.heap s g) (hl:∀p,lo=some p→st'.ev p=st.ev p) (h1:st'.ev hi=st.ev hi) (h2:st'.ev mx=st.ev mx):vE P st' T x lo hi mx=vE P st T x lo hi mx:=by
 unfold vE;rw[h1,h2];cases dK P T with
 | none=>rfl
 | some t =>
   simp only
   cases lo with
   | none =>
     simp only
     cases x<;>try rfl
     case own s g=>simp only[hx s g rfl]
     case v y =>
      cases y<;>try rfl
      rename_i p n c;cases p<;>cases n<;>cases c<;>rfl
   | some l =>
     simp only[hl l rfl];cases x<;>try rfl
     case own s g=>simp only[hx s g rfl]
     case v y =>
      cases y<;>try rfl
      rename_i p n c;cases p<;>cases n<;>cases c<;>rfl
theorem MW {T:Nat} {m x:AV} {ok:Bool} (hm:lX st.aO m) (hh:pO st st'):Rt P st' T m x ok=Rt P st T m x ok:=by
 unfold Rt;cases m<;>try rfl
 simp only[hh _ _ hm.mp]
theorem AS {T:Nat} {m x y:AV} (hm:lX st.aO m) (hh:pO st st'):tC P st' T m x y=tC P st T m x y:=by
 unfold tC;cases m<;>try rfl
 simp only[hh _ _ hm.mp]
theorem GS {r:AV} {dst:Option Nat} (hc:∀d,dst=some d→st'.aO d=st.aO d):iR r st' dst=iR r st dst:=by
 unfold iR;cases dst with
 | none=>rfl
 | some d=>simp only[hc d rfl]
theorem xH (hp:AP st) {g:Nat} {args:List AV} {dst:Option Nat} (hx:∀x∈args,lX st.aO x) (hh:pO st st') (hc:∀d,dst=some d→st'.aO d=st.aO d):aP call g args st' dst=aP call g args st dst:=by
 unfold aP;have:args.map (eT st')=args.map (eT st):=List.map_congr_left fun x Il=>Xl hp (hx x Il) hh
 rw[this];have h2:∀r,iR r st' dst=iR r st dst:=fun r=>GS hc
 simp only[h2]
theorem GU (hp:AP st) {g:Nat} {args:List AV} {dst:Option Nat} (hx:∀x∈args,lX st.aO x) (hh:pO st st') (hc:∀d,dst=some d→st'.aO d=st.aO d):kU call g args st' dst=kU call g args st dst:=by
 unfold kU;split
 ·rename_i s k rest;rw[hh _ _ (hx _ (List.mem_cons_self ..)).own];cases dst with
  | none=>rfl
  | some d=>simp only[hc d rfl]
 ·rw[xH hp hx hh hc]
theorem AT (hp:AP st) {g:Nat} {args:List AV} {dst:Option Nat} (hx:∀x∈args,lX st.aO x) (hh:pO st st') (hc:∀d,dst=some d→st'.aO d=st.aO d):eE call g args st' dst=eE call g args st dst:=by
 have h1:=xH (call:=call) (g:=g) hp hx hh hc
 have:args.map (eT st')=args.map (eT st):=List.map_congr_left fun x Il=>Xl hp (hx x Il) hh
 unfold eE;rw[this,h1];have h2:∀r s k,Dk r st' dst s k=Dk r st dst s k:=fun r s k=>by
  unfold Dk;cases dst with
  | none=>cases r<;>rfl
  | some d=>cases r<;>simp only[hc d rfl]
 simp only[h2]
theorem Nu {parts:List (Nat × Operand)} (h:∀p∈parts,st'.ev p.2=st.ev p.2):(parts.map fun p=>(p.1,st'.ev p.2))=parts.map fun p=>(p.1,st.ev p.2) :=
 List.map_congr_left fun p hp=>by rw[h p hp]
theorem Un {parts:List (Nat × Operand)} (h:∀p∈parts,st'.ev p.2=st.ev p.2):(parts.all fun p=>(st'.ev p.2).jG)=parts.all fun p=>(st.ev p.2).jG:=by
 induction parts with
 | nil=>rfl
 | cons p ps ih =>
   simp only[List.all_cons];rw[h p (by simp),ih fun q hq=>h q (by simp[hq])]
theorem u5 {aO:Nat→Nat} {x:AV} {g:Nat} {oI:List AV} (h:EH x=some (g,oI)) (hx:lX aO x):∀c∈oI,lX aO c:=by
 unfold EH at h;split at h
 ·split at h
  ·simp only[Option.some.injEq,Prod.mk.injEq] at h;obtain⟨rfl,rfl⟩:=h
   simp
  ·cases h
 ·simp only[Option.some.injEq,Prod.mk.injEq] at h;obtain⟨rfl,rfl⟩:=h
  exact hx.Bp
 ·cases h
variable [Ext]
theorem AU (hp:AP st) {c:Call} {dst:Option Nat} (he:∀p∈c.operands,st'.ev p=st.ev p) (hi:∀p∈c.operands,lX st.aO (st.ev p)) (hh:pO st st') (hc:∀d,dst=some d→st'.aO d=st.aO d) :
 iA P call c dst st'=iA P call c dst st:=by
 have vY:∀p∈c.args.toList,p∈c.operands:=fun p hp=>by simp[Call.operands];right;simpa using hp
 unfold iA;split
 ·rename_i f hf;have hfo:f∈c.operands:=by simp[Call.operands,hf]
  have hm:c.args.toList.map st'.ev=c.args.toList.map st.ev:=List.map_congr_left fun p hp=>he p (vY p hp)
  have hia:∀x∈c.args.toList.map st.ev,lX st.aO x:=fun x hx=>by
   obtain⟨p,hp,rfl⟩:=List.mem_map.1 hx
   exact hi p (vY p hp)
  unfold mX;rw[hm];split
  ·split
   ·exact GU hp hia hh hc
   ·split
    ·exact AT hp hia hh hc
    ·exact xH hp hia hh hc
  ·rw[he f hfo];cases h:EH (st.ev f) with
   | none=>rfl
   | some gc =>
     obtain⟨g,oI⟩:=gc
     refine xH hp (fun x hx=>?_) hh hc
     rcases List.mem_append.1 hx with hx|hx
     ·exact hia x hx
     ·exact u5 h (hi f hfo) x hx
 ·split
  ·rename_i x T hx hT;have Q4:=vY x (by rw[hx];simp)
   rw[he x Q4,sB (hi x Q4) hh]
  ·rfl
 ·split
  ·rename_i x y hx;rw[he x (vY x (by rw[hx];simp)),he y (vY y (by rw[hx];simp))]
  ·rfl
 ·split
  ·rename_i x y hx;rw[he x (vY x (by rw[hx];simp)),he y (vY y (by rw[hx];simp))]
  ·rfl
 ·cases dst with
  | none=>rfl
  | some d =>
  simp only[cH];split
  ·rename_i s x T T' hx hT
   have hso:=vY s (by rw[hx];simp)
   have Q4:=vY x (by rw[hx];simp)
   have hn:Fx P st' T (st'.ev s) (st'.ev x)=Fx P st T (st.ev s) (st.ev x):=by simp only[Fx,he s hso,he x Q4,sB (hi x Q4) hh]
   rw[hn,he s hso,he x Q4,AQ (hi s hso) (hi x Q4) hh,AR (hi s hso) (hi x Q4) hh,hc d rfl]
  ·rfl
 ·split
  ·rename_i x T hx hT;have Q4:=vY x (by rw[hx];simp)
   rw[he x Q4,GR (hi x Q4) hh]
  ·rfl
 ·rfl
theorem MX (hp:AP st) {o:Oper} (he:∀p∈o.op.operands,st'.ev p=st.ev p) (hi:∀p∈o.op.operands,lX st.aO (st.ev p)) (hh:pO st st') (hc:∀d,o.dst=some d→st'.aO d=st.aO d) :
 dH P call o st'=dH P call o st:=by
 obtain⟨dst,op,type,pos,after,guard⟩:=o
 cases op<;>simp only[dH,iP,Op.operands] at *
 case call c=>exact AU hp he hi hh hc
 case alloc T=>cases dst with
  | none=>rfl
  | some d=>simp only[cH,hc d rfl]
 case box T x=>cases dst with
  | none=>rfl
  | some d=>simp only[cH,hc d rfl,he x (by simp)]
 case buildSlice T n parts =>
  have zH:∀p∈parts.toList,st'.ev p.2=st.ev p.2:=fun p hp=>he p.2 (by simp;exact⟨p.1,by simpa using hp⟩)
  rw[Nu zH,Un zH];cases dst with
  | none=>rfl
  | some d=>simp only[cH,hc d rfl]
 case makeSlice T l c =>
  rw[he l (by simp),he c (by simp)]
  cases dst with
  | none=>rfl
  | some d=>simp only[cH,hc d rfl]
 case makeMap T r =>
  cases r with
  | none=>cases dst with
    | none=>rfl
    | some d=>simp only[cH,hc d rfl]
  | some r=>rfl
 case mapUpdate T m x y=>rw[he m (by simp),he x (by simp),he y (by simp),AS (hi m (by simp)) hh]
 case lookup T m x ok=>rw[he m (by simp),he x (by simp),MW (hi m (by simp)) hh]
 case store T x y=>rw[he x (by simp),he y (by simp),GQ (hi x (by simp)) hh]
 case move x=>rw[he x (by simp)]
 case assign x=>rw[he x (by simp)]
 case pick c x y=>rw[he c (by simp),he x (by simp),he y (by simp)]
 case binOp op T x y yT=>rw[he x (by simp),he y (by simp)]
 case unOp op T x=>rw[he x (by simp)]
 case convert s d x=>rw[he x (by simp)]
 case nilCheck x=>rw[he x (by simp)]
 case field T x f=>rw[he x (by simp)]
 case fieldAddr T x f=>rw[he x (by simp)]
 case indexAddr T x i=>rw[he x (by simp),he i (by simp),Qr (hi x (by simp)) hh]
 case load T x=>rw[he x (by simp),GO (hi x (by simp)) hh]
 case extract t i=>rw[he t (by simp)]
 case build T parts =>
  have zH:∀p∈parts.toList,st'.ev p.2=st.ev p.2:=fun p hp=>he p.2 (by simp;exact⟨p.1,by simpa using hp⟩)
  unfold iO;rw[Nu zH,Un zH]
 case slice T x lo Bx mx =>
  cases mx with
  | some m =>
    cases Bx with
    | none=>rfl
    | some h =>
      simp only
      rw[he x (by simp),Sj (fun s g hx=>by have:=hi x (by simp);rw[hx] at this;exact hh _ _ this.own) (fun p hp=>he p (by simp[hp])) (he h (by simp)) (he m (by simp))]
  | none =>
    simp only
    rw[he x (by simp),GP (hi x (by simp)) hh (fun p hp=>he p (by simp[hp])) (fun p hp=>he p (by simp[hp]))]
 case makeFunc fn first captured =>
  cases fn with
  | func f =>
    simp only
    have:captured.toList.map st'.ev=captured.toList.map st.ev:=List.map_congr_left fun p hp=>he p (by simp;right;simpa using hp)
    rw[this]
  | _=>rfl
theorem GV {ops:Array Oper} {o:Oper} (Az:lZ ops o=0∨lZ ops o=2) (he:∀p∈o.op.operands,st'.ev p=st.ev p) (hc:∀d,o.dst=some d→st'.aO d=st.aO d) :
 dH P call o st'=dH P call o st:=by
 obtain⟨dst,op,type,pos,after,guard⟩:=o
 cases op<;>simp only[dH,iP,Op.operands,lZ] at *
 case call c =>
  exfalso
  obtain⟨callee,args,rL⟩:=c
  cases callee with
  | builtin b=>cases b<;>simp at Az;split at Az<;>simp at Az
  | value f=>cases f<;>simp at Az;split at Az<;>(try split at Az)<;>(try split at Az)<;>simp at Az
  | _=>simp at Az
 case alloc T=>cases dst with
  | none=>rfl
  | some d=>simp only[cH,hc d rfl]
 case box T x=>cases dst with
  | none=>rfl
  | some d=>simp only[cH,hc d rfl,he x (by simp)]
 case buildSlice T n parts =>
  have zH:∀p∈parts.toList,st'.ev p.2=st.ev p.2:=fun p hp=>he p.2 (by simp;exact⟨p.1,by simpa using hp⟩)
  rw[Nu zH,Un zH];cases dst with
  | none=>rfl
  | some d=>simp only[cH,hc d rfl]
 case makeSlice T l c =>
  rw[he l (by simp),he c (by simp)]
  cases dst with
  | none=>rfl
  | some d=>simp only[cH,hc d rfl]
 case makeMap T r =>
  cases r with
  | none=>cases dst with
    | none=>rfl
    | some d=>simp only[cH,hc d rfl]
  | some r=>rfl
 case mapUpdate T m x y=>simp at Az
 case lookup T m x ok=>simp at Az
 case store T x y=>simp at Az
 case move x=>rw[he x (by simp)]
 case assign x=>rw[he x (by simp)]
 case pick c x y=>rw[he c (by simp),he x (by simp),he y (by simp)]
 case binOp op T x y yT=>rw[he x (by simp),he y (by simp)]
 case unOp op T x=>rw[he x (by simp)]
 case convert s d x=>rw[he x (by simp)]
 case nilCheck x=>rw[he x (by simp)]
 case field T x f=>rw[he x (by simp)]
 case fieldAddr T x f=>rw[he x (by simp)]
 case indexAddr T x i=>simp at Az
 case load T x=>simp at Az
 case extract t i=>rw[he t (by simp)]
 case build T parts =>
  have zH:∀p∈parts.toList,st'.ev p.2=st.ev p.2:=fun p hp=>he p.2 (by simp;exact⟨p.1,by simpa using hp⟩)
  unfold iO;rw[Nu zH,Un zH]
 case slice T x lo Bx mx=>simp at Az
 case makeFunc fn first captured =>
  cases fn with
  | func f =>
    simp only
    have:captured.toList.map st'.ev=captured.toList.map st.ev:=List.map_congr_left fun p hp=>he p (by simp;right;simpa using hp)
    rw[this]
  | _=>rfl
end
end Go.Ab
end
section
namespace Go.Ab
open Classical
section
variable {P:Program} {call:Nat→List AV→Option AV} {st st':St} {ops:Array Oper}
theorem Nv {r:AV} {dst:Option Nat} {e:qR} (h:iR r st dst=some e):e.dst=dst∧e.dJ=none∧∀d x,e.new=some (d,x)→dst=some d:=by
 unfold iR at h;split at h
 ·simp only[Option.some.injEq] at h;subst h;exact⟨rfl,rfl,fun d x h=>by simp at h⟩
 ·cases dst with
  | none=>cases h
  | some d=>simp only[Option.some.injEq] at h;subst h;exact⟨rfl,rfl,fun d x h=>by simp at h;rw[h.1]⟩
theorem xI {g:Nat} {args:List AV} {dst:Option Nat} {e:qR} (h:aP call g args st dst=some e):e.dst=dst∧e.dJ=none∧∀d x,e.new=some (d,x)→dst=some d:=by
 unfold aP at h;split at h
 ·cases hc:call g args with
  | none=>simp[hc,cH] at h
  | some r=>simp only[hc,cH] at h;exact Nv h
 ·split at h
  ·rename_i xs _;cases hc:call g xs with
   | none=>simp[hc,cH] at h
   | some r =>
     simp only[hc,cH] at h;split at h
     ·exact Nv h
     ·cases h
  ·cases h
theorem Nw {g:Nat} {args:List AV} {dst:Option Nat} {e:qR} (h:kU call g args st dst=some e):e.dst=dst∧(∀d x,e.new=some (d,x)→dst=some d)∧∀s k x,e.dJ=some (s,k,x)→args.head? = some (.own s k):=by
 unfold kU at h;split at h
 ·split at h
  ·split at h
   ·split at h
    ·cases dst with
     | none=>cases h
     | some d =>
       simp only[Option.some.injEq] at h;subst h;exact⟨rfl,fun d x h=>by simp at h;rw[h.1],fun s k x h=>by simp at h;simp[h.1,h.2.1]⟩
    ·simp only[Option.some.injEq] at h;subst h;exact⟨rfl,fun d x h=>by simp at h,fun s k x h=>by simp at h;simp[h.1,h.2.1]⟩
    ·cases h
   ·cases h
  ·cases h
 ·split at h
  ·obtain⟨h1,h2,h3⟩:=xI h
   exact⟨h1,h3,fun s k x h=>by rw[h2] at h;cases h⟩
  ·cases h
theorem AW {g:Nat} {args:List AV} {dst:Option Nat} {e:qR} (h:eE call g args st dst=some e):e.dst=dst∧(∀d x,e.new=some (d,x)→dst=some d)∧∀s k x,e.dJ=some (s,k,x)→∃y∈args,y=.own s k∨∃cs,y=.agg cs∧.own s k∈cs:=by
 unfold eE at h;split at h
 ·rename_i s k hk;split at h
  ·split at h
   ·rename_i xs _;cases hc:call g xs with
    | none=>simp[hc,cH] at h
    | some r =>
      simp only[hc,cH] at h;have hu:e.dJ=some (s,k,none)∧e.dst=dst∧∀d x,e.new=some (d,x)→dst=some d:=by
       rcases Nt h with ⟨_,rfl⟩|⟨_,e1,sz,n,cs,d,rfl,rfl,_,rfl⟩
       ·exact⟨rfl,rfl,fun d x h=>by simp at h⟩
       ·exact⟨rfl,rfl,fun d x h=>by simp at h;rw[h.1]⟩
      ·refine⟨hu.2.1,hu.2.2,fun s' k' x h=>?_⟩
       rw[hu.1] at h;simp only[Option.some.injEq,Prod.mk.injEq] at h;obtain⟨rfl,rfl,_⟩:=h
       have hm:(s,k)∈args.flatMap iV:=by rw[hk];simp
       obtain⟨y,hy,hyk⟩:=List.mem_flatMap.1 hm
       refine⟨y,hy, ?_⟩
       have key:∀c,(s,k)∈gA c→c=.own s k:=fun c hc=>by
        cases c<;>simp[gA] at hc
        obtain⟨rfl,rfl⟩:=hc
        rfl
       cases y with
       | agg cs =>
         obtain⟨c,hc,hck⟩:=List.mem_flatMap.1 (show (s,k)∈cs.flatMap gA from hyk)
         exact .inr ⟨cs,rfl,by rw[← key c hck];exact hc⟩
       | own a b=>exact .inl (key _ hyk)
       | _=>simp[iV,gA] at hyk
   ·cases h
  ·cases h
 ·obtain⟨h1,h2,h3⟩:=xI h
  exact⟨h1,h3,fun s k x h=>by rw[h2] at h;cases h⟩
theorem nX (e:qR) (t:Nat):(e.apply st).env t=if e.dst=some t then e.val else st.env t:=by
 have h2:∀(s1:St),(s1.put e.dst e.val).env t=if e.dst=some t then e.val else s1.env t:=fun s1=>by
  cases hd:e.dst with
  | none=>simp[St.put]
  | some d =>
    simp only[St.put,Option.some.injEq];by_cases h:t=d
    ·subst h;simp
    ·rw[if_neg h,if_neg (fun h'=>h h'.symm)]
 unfold qR.apply;rw[h2];cases e.dJ<;>cases e.new<;>rfl
theorem kT (e:qR) (s:Nat):(e.apply st).aO s=match e.new with
 | some (d,es)=>if s=d then st.aO d+es.length else st.aO s
 | none=>st.aO s:=by
 unfold qR.apply;rw[WG];cases e.dJ<;>cases e.new<;>rfl
theorem sL (e:qR) (s g:Nat):(e.apply st).heap s g=match e.new with
 | some (d,es)=>if s=d∧st.aO d≤g∧g-st.aO d<es.length then es[g-st.aO d]? else (match e.dJ with
   | some (s0,g0,y)=>if s=s0∧g=g0 then y else st.heap s g
   | none=>st.heap s g)
 | none=>(match e.dJ with
   | some (s0,g0,y)=>if s=s0∧g=g0 then y else st.heap s g
   | none=>st.heap s g):=by
 unfold qR.apply;rw[Uy];cases e.dJ<;>cases e.new<;>rfl
theorem Q5 {o:Oper} (h:∀j want d,o.guard=some (j,want)→(ops[j]?).bind (·.dst)=some d→st'.env d=st.env d):gv ops st' o.guard=gv ops st o.guard:=by
 unfold gv;cases hg:o.guard with
 | none=>rfl
 | some jw =>
   obtain⟨j,want⟩:=jw
   simp only
   cases hd:(ops[j]?).bind (·.dst) with
   | none=>rfl
   | some d=>simp only[h j want d hg hd]
theorem Q6 {a b:St} (h1:a.env=b.env) (h2:a.heap=b.heap) (h3:a.aO=b.aO):a=b:=by
 cases a;cases b;simp_all
theorem Xm {T:Nat} {p x:AV} {u:Nat × Nat × mI × Nat} (h:jZ P st T p x=some u):∃n,p=.vw u.1 u.2.1 0 n:=by
 unfold jZ at h;split at h
 ·split at h
  ·split at h
   ·simp only[Option.some.injEq] at h;subst h;exact⟨_,rfl⟩
   ·cases h
  ·cases h
 ·cases h
theorem u6 {T:Nat} {p:AV} {u:Nat × Nat × mI} (h:tD P st T p=some (some u)):∃o n,p=.vw u.1 u.2.1 o n:=by
 unfold tD at h;split at h
 ·split at h
  ·split at h
   ·simp only[Option.some.injEq] at h;subst h;exact⟨_,_,rfl⟩
   ·cases h
  ·cases h
 ·simp at h
 ·simp at h
 ·cases h
variable [Ext]
theorem MY {o:Oper} {e:qR} (h:dH P call o st=some e) :
 e.dst=o.dst∧(∀d x,e.new=some (d,x)→o.dst=some d)∧(∀s g x,e.dJ=some (s,g,x)→lZ ops o=3∧∃p∈o.op.operands,(∃off,st.ev p=.ptr s g off)∨st.ev p=.own s g∨st.ev p=.mp s g∨(∃cs,st.ev p=.agg cs∧.own s g∈cs)∨∃o n,st.ev p=.vw s g o n):=by
 obtain⟨dst,op,type,pos,after,guard⟩:=o
 have val:∀x:Option AV,(x.map fun y=>({ dst:=dst,val:=y }:qR))=some e→e.dst=dst∧(∀d x,e.new=some (d,x)→dst=some d)∧(∀s g x,e.dJ≠some (s,g,x)):=fun x h=>by
  cases x with
  | none=>simp at h
  | some y=>simp at h;subst h;exact⟨rfl,fun d x h=>by simp at h,fun s g x h=>by simp at h⟩
 cases op
 case call c =>
  simp only[dH] at h;unfold iA at h;split at h
  ·rename_i f hc;unfold mX at h;split at h
   ·rename_i g;split at h
    ·rename_i hmv;obtain⟨h1,h2,h3⟩:=Nw h
     refine⟨h1,h2,fun s k x hu=>?_⟩
     have hh:=h3 s k x hu
     obtain⟨callee,args,rL⟩:=c
     simp only at hc hh
     subst hc;cases hl:args.toList with
     | nil=>rw[hl] at hh;simp at hh
     | cons p ps =>
       rw[hl] at hh;simp only[List.map_cons,List.head?_cons,Option.some.injEq] at hh;refine⟨?_,p, ?_,.inr (.inl hh)⟩
       ·simp only[lZ,hl,hmv];cases p with
        | const v=>simp[St.ev] at hh
        | _=>simp
       simp only[Op.operands,Call.operands];simp
       right
       rw[← Array.mem_toList_iff,hl];simp
    ·split at h
     ·rename_i heat;obtain⟨h1,h2,h3⟩:=AW h
      refine⟨h1,h2,fun s k x hu=>?_⟩
      obtain⟨y,hy,hyo⟩:=h3 s k x hu
      obtain⟨callee,args,rL⟩:=c
      simp only at hc hy
      subst hc;refine⟨by simp[lZ,heat], ?_⟩
      obtain⟨p,hp,rfl⟩:=List.mem_map.1 hy
      refine⟨p, ?_, ?_⟩
      ·simp only[Op.operands,Call.operands];simp
       right
       simpa using hp
      ·rcases hyo with h|⟨cs,h,hm⟩
       ·exact .inr (.inl h)
       ·exact .inr (.inr (.inr (.inl ⟨cs,h,hm⟩)))
     ·obtain⟨h1,h2,h3⟩:=xI h
      exact⟨h1,h3,fun s g x h=>by rw[h2] at h;cases h⟩
   ·split at h
    ·obtain⟨h1,h2,h3⟩:=xI h
     exact⟨h1,h3,fun s g x h=>by rw[h2] at h;cases h⟩
    ·cases h
  ·split at h
   ·split at h
    ·simp only[Option.some.injEq] at h;subst h;exact⟨rfl,fun d x h=>by simp at h,fun s g x h=>by simp at h⟩
    ·cases h
   ·cases h
  ·split at h
   ·split at h
    ·simp only[Option.some.injEq] at h;subst h;exact⟨rfl,fun d x h=>by simp at h,fun s g x h=>by simp at h⟩
    ·cases h
   ·cases h
  ·split at h
   ·split at h
    ·simp only[Option.some.injEq] at h;subst h;exact⟨rfl,fun d x h=>by simp at h,fun s g x h=>by simp at h⟩
    ·cases h
   ·cases h
  ·rename_i hc;cases dst with
   | none=>simp[cH] at h
   | some d =>
     simp only[cH] at h;split at h
     ·rename_i s x T T' hx hT
      split at h
      ·split at h
       ·cases mT:jZ P st T (st.ev s) (st.ev x) with
        | none=>simp[mT] at h
        | some u =>
        simp only[mT,Option.map_some,Option.some.injEq] at h;subst h;refine⟨rfl,nofun,fun s' g' x' hu=>?_⟩
        simp only[Option.some.injEq,Prod.mk.injEq] at hu;obtain⟨rfl,rfl,rfl⟩:=hu
        obtain⟨n0,yU⟩:=Xm mT
        refine⟨?_,s, ?_,.inr (.inr (.inr (.inr ⟨0,n0,yU⟩)))⟩
        ·obtain⟨callee,args,rL⟩:=c
         simp only at hc hx
         subst hc;simp only[lZ,hx];cases s with
         | const v =>
           simp[St.ev] at yU
         | _=>rfl
        ·simp only[Op.operands,Call.operands,hc];simp
         rw[← Array.mem_toList_iff,hx];simp
       split at h
       ·simp only[Option.some.injEq] at h;subst h;exact⟨rfl,nofun,nofun⟩
       cases mT:cX P st T (st.ev s) (st.ev x) with
       | none=>simp[mT] at h
       | some ur =>
         obtain⟨u,r⟩:=ur
         simp only[mT,Option.some.injEq] at h;subst h;refine⟨rfl,fun d x h=>by simp at h;rw[h.1],fun s' g' x' hu=>?_⟩
         simp only[Option.map_eq_some_iff] at hu;obtain⟨⟨s2,g2⟩,hu1,hu2⟩:=hu
         simp only[Prod.mk.injEq] at hu2;obtain⟨rfl,rfl,rfl⟩:=hu2
         subst hu1;have yU:st.ev s=.own s2 g2:=by
          unfold cX at mT;split at mT
          ·split at mT
           ·split at mT
            ·split at mT
             ·split at mT<;>simp at mT
             ·rename_i s3 g3 hs3;split at mT
              ·split at mT
               ·simp only[Option.some.injEq,Prod.mk.injEq] at mT;obtain⟨⟨rfl,rfl⟩,_⟩:=mT
                exact hs3
               ·cases mT
              ·cases mT
             ·split at mT<;>simp at mT
             ·cases mT
            ·cases mT
           ·cases mT
          ·cases mT
         refine⟨?_,s, ?_,.inr (.inl yU)⟩
         ·obtain⟨callee,args,rL⟩:=c
          simp only at hc hx
          subst hc;simp only[lZ,hx];cases s with
          | const v =>
            simp[St.ev] at yU
          | _=>rfl
         ·simp only[Op.operands,Call.operands,hc];simp
          rw[← Array.mem_toList_iff,hx];simp
      ·cases h
     ·cases h
  ·rename_i hc;split at h
   ·rename_i x T hx hT;cases mT:tD P st T (st.ev x) with
    | none=>simp[mT] at h
    | some u =>
      simp only[mT,Option.map_some,Option.some.injEq] at h;subst h;refine⟨rfl,nofun,fun s' g' x' hu=>?_⟩
      simp only[Option.map_eq_some_iff,Prod.mk.injEq] at hu;obtain⟨p,rfl,rfl,rfl,_⟩:=hu
      obtain⟨o,n,yU⟩:=u6 mT
      refine⟨?_,x, ?_,.inr (.inr (.inr (.inr ⟨o,n,yU⟩)))⟩
      ·obtain⟨callee,args,rL⟩:=c
       simp only at hc
       subst hc;rfl
      ·simp only[Op.operands,Call.operands,hc];simp
       rw[← Array.mem_toList_iff,hx];simp
   ·cases h
  ·cases h
 case store T x y =>
  simp only[dH] at h;cases hs:pI P st T (st.ev x) (st.ev y) with
  | none=>simp[hs] at h
  | some u =>
    obtain⟨s,g,e'⟩:=u
    simp only[hs,Option.map_some,Option.some.injEq] at h;subst h;refine⟨rfl,fun d x h=>by simp at h,fun s' g' x' hu=>⟨rfl,x,by simp[Op.operands],.inl ?_⟩⟩
    simp only[Option.some.injEq,Prod.mk.injEq] at hu;obtain⟨rfl,rfl,_⟩:=hu
    unfold pI at hs;split at hs
    ·rename_i s1 g1 o1 hp;refine⟨o1, ?_⟩
     rw[hp];split at hs
     ·split at hs
      ·split at hs
       ·split at hs
        ·simp only[Option.some.injEq,Prod.mk.injEq] at hs;rw[hs.1,hs.2.1]
        ·cases hs
       ·split at hs
        ·simp only[Option.some.injEq,Prod.mk.injEq] at hs;rw[hs.1,hs.2.1]
        ·cases hs
       ·cases hs
      ·cases hs
     ·cases hs
    ·cases hs
 case alloc T =>
  simp only[dH] at h;cases dst with
  | none=>simp[cH] at h
  | some d=>cases hz:dS P T with
    | none=>simp[hz,cH] at h
    | some z=>simp only[hz,cH,Option.some.injEq] at h;subst h;exact⟨rfl,fun d x h=>by simp at h;rw[h.1],fun s g x h=>by simp at h⟩
 case box T x =>
  simp only[dH] at h;cases dst with
  | none=>simp[cH] at h
  | some d =>
    simp only[cH] at h;split at h
    ·simp only[Option.some.injEq] at h;subst h;exact⟨rfl,fun d x h=>by simp at h;rw[h.1],fun s g x h=>by simp at h⟩
    ·cases h
 case buildSlice T n parts =>
  simp only[dH] at h;cases dst with
  | none=>simp[cH] at h
  | some d=>cases hs:dK P T with
    | none=>simp[hs,cH] at h
    | some t=>cases hz:dS P t.1 with
      | none=>simp[hs,hz,cH] at h
      | some z =>
        simp only[hs,hz,cH] at h;split at h
        ·cases hf:gJ (fun i=>some (i * t.2.1,t.2.1)) ((List.range n).flatMap fun _=>z.map .v) (parts.toList.map fun p=>(p.1,st.ev p.2)) with
         | none=>simp[hf] at h
         | some cs=>simp only[hf,Option.some.injEq] at h;subst h;exact⟨rfl,fun d x h=>by simp at h;rw[h.1],fun s g x h=>by simp at h⟩
        ·cases h
 case makeSlice T l c =>
  simp only[dH] at h;cases dst with
  | none=>simp[cH] at h
  | some d=>cases hs:dK P T with
    | none=>simp[hs,cH] at h
    | some t=>cases hz:dS P t.1 with
      | none=>simp[hs,hz,cH] at h
      | some z =>
        simp only[hs,hz,cH] at h;split at h
        ·split at h
         ·simp only[Option.some.injEq] at h;subst h;exact⟨rfl,fun d x h=>by simp at h;rw[h.1],fun s g x h=>by simp at h⟩
         ·cases h
        ·cases h
 case makeMap T r =>
  cases r with
  | none =>
    simp only[dH] at h;cases dst with
    | none=>simp[cH] at h
    | some d=>simp only[cH,Option.some.injEq] at h;subst h;exact⟨rfl,fun d x h=>by simp at h;rw[h.1],fun s g x h=>by simp at h⟩
  | some r =>
    simp only[dH] at h;obtain⟨h1,h2,h3⟩:=val _ h
    exact⟨h1,h2,fun s g x hu=>absurd hu (h3 s g x)⟩
 case mapUpdate T m x y =>
  simp only[dH] at h;cases hs:tC P st T (st.ev m) (st.ev x) (st.ev y) with
  | none=>simp[hs] at h
  | some u =>
    obtain⟨s,g,e'⟩:=u
    simp only[hs,Option.map_some,Option.some.injEq] at h;subst h;refine⟨rfl,fun d x h=>by simp at h,fun s' g' x' hu=>⟨rfl,m,by simp[Op.operands],.inr (.inr (.inl ?_))⟩⟩
    simp only[Option.some.injEq,Prod.mk.injEq] at hu;obtain⟨rfl,rfl,_⟩:=hu
    unfold tC at hs;split at hs
    ·rename_i s1 g1 hp;rw[hp];split at hs
     ·split at hs
      ·simp only[Option.some.injEq,Prod.mk.injEq] at hs;rw[hs.1,hs.2.1]
      ·cases hs
     ·cases hs
    ·cases hs
 all_goals
  simp only[dH] at h;obtain⟨h1,h2,h3⟩:=val _ h
  exact⟨h1,h2,fun s g x hu=>absurd hu (h3 s g x)⟩
noncomputable def rE (P:Program) (call:Nat→List AV→Option AV) (ops:Array Oper) (o:Oper) (st:St):Option qR :=
 match gv ops st o.guard with
 | some b=>if b=true then dH P call o st else some { dst:=o.dst,val:=.v undef }
 | none=>none
theorem Eh (o:Oper):cB P call ops o st=(rE P call ops o st).map fun e=>e.apply st:=by
 unfold cB rE;cases gv ops st o.guard with
 | none=>rfl
 | some b=>cases b<;>rfl
theorem oH {o:Oper} {e:qR} (h:rE P call ops o st=some e) :
 e.dst=o.dst∧(∀d x,e.new=some (d,x)→o.dst=some d)∧(∀s g x,e.dJ=some (s,g,x)→lZ ops o=3∧∃p∈o.op.operands,(∃off,st.ev p=.ptr s g off)∨st.ev p=.own s g∨st.ev p=.mp s g∨(∃cs,st.ev p=.agg cs∧.own s g∈cs)∨∃o n,st.ev p=.vw s g o n):=by
 unfold rE at h;split at h
 ·split at h
  ·exact MY h
  ·simp only[Option.some.injEq] at h;subst h;exact⟨rfl,fun d x h=>by simp at h,fun s g x h=>by simp at h⟩
 ·cases h
theorem Sk (hp:AP st) {x y:Oper} {ex:qR} (mT:rY ops x y=true∨rY ops y x=true) (Kt:∀t,lX st.aO (st.env t)) (hx:rE P call ops x st=some ex) :
 rE P call ops y (ex.apply st)=rE P call ops y st:=by
 obtain⟨sd,sn,su⟩:=oH hx
 have XT:(∀d,x.dst=some d→d ∉ y.looksAt ops)∧(∀d,x.dst=some d→y.dst≠some d):=by
  rcases mT with h|h
  ·simp only[rY,Bool.and_eq_true] at h;obtain⟨h1,h2,_⟩:=Oper.apart_spec h.1
   exact⟨h1,h2⟩
  ·simp only[rY,Bool.and_eq_true] at h;obtain⟨_,h2,h3⟩:=Oper.apart_spec h.1
   exact⟨h3,fun d hd hy=>h2 d hy hd⟩
 have henv:∀t,t∈y.looksAt ops→(ex.apply st).env t=st.env t:=fun t ht=>by
  rw[nX,if_neg];intro h;rw[sd] at h;exact XT.1 t h ht
 have Zw:∀p∈y.op.operands,(ex.apply st).ev p=st.ev p:=fun p hp=>by
  cases p with
  | tmp t=>exact henv t (by unfold Oper.looksAt;exact List.mem_append_left _ (List.mem_filterMap.2 ⟨.tmp t,by simpa using hp,rfl⟩))
  | _=>rfl
 have Q7:gv ops (ex.apply st) y.guard=gv ops st y.guard:=Q5 fun j want d hg hd=>henv d (by
  unfold Oper.looksAt;apply List.mem_append_right
  rw[hg];simp[hd])
 have hcnt:∀d,y.dst=some d→(ex.apply st).aO d=st.aO d:=fun d hd=>by
  rw[kT];split
  ·rename_i d' z hn
   have:=sn d' z hn
   rw[if_neg];rintro rfl
   exact XT.2 d this hd
  ·rfl
 have Tg:∀p∈y.op.operands,lX st.aO (st.ev p):=fun p hp=>by
  cases p with
  | tmp t=>exact Kt t
  | const v=>exact⟨⟨fun _ _=>False,fun _ _=>undef,st.aO⟩,v,rfl,.v v⟩
  | global g=>exact⟨⟨fun _ _=>False,fun _ _=>undef,st.aO⟩,_,rfl,.v _⟩
  | func f=>exact⟨⟨fun _ _=>False,fun _ _=>undef,st.aO⟩,_,rfl,.v _⟩
 have pQ:dH P call y (ex.apply st)=dH P call y st:=by
  by_cases h3:lZ ops x=3
  ·refine GV (ops:=ops) ?_ Zw hcnt
   have hle:lZ ops y=0∨lZ ops y=1∨lZ ops y=2∨lZ ops y=3∨lZ ops y=4:=by
    unfold lZ;split<;>(try split)<;>(try split)<;>(try split)<;>simp
   rcases mT with h|h<;>simp only[rY,Bool.and_eq_true,h3] at h<;>rcases hle with e|e|e|e|e<;>simp[e] at h ⊢
  ·have hnu:ex.dJ=none:=by
    cases hu:ex.dJ with
    | none=>rfl
    | some sgx=>exact absurd (su sgx.1 sgx.2.1 sgx.2.2 hu).1 h3
   refine MX hp Zw Tg (fun s g bA=>?_) hcnt
   rw[sL,hnu];split
   ·rename_i d z hn;rw[if_neg];rintro⟨rfl,h,_⟩
    omega
   ·rfl
 unfold rE;rw[Q7,pQ]
theorem GW {o:Oper} {e:qR} {s g:Nat} {z:Option mI} (Kt:∀t,lX st.aO (st.env t)) (h:rE P call ops o st=some e) (hu:e.dJ=some (s,g,z)):g<st.aO s:=by
 obtain⟨_,_,su⟩:=oH h
 obtain⟨_,p,hp,hv⟩:=su s g z hu
 have Tg:lX st.aO (st.ev p):=by
  cases p with
  | tmp t=>exact Kt t
  | const v=>exact⟨⟨fun _ _=>False,fun _ _=>undef,st.aO⟩,v,rfl,.v v⟩
  | global g=>exact⟨⟨fun _ _=>False,fun _ _=>undef,st.aO⟩,_,rfl,.v _⟩
  | func f=>exact⟨⟨fun _ _=>False,fun _ _=>undef,st.aO⟩,_,rfl,.v _⟩
 rcases hv with ⟨off,hv⟩|hv|hv|⟨cs,hv,hm⟩|⟨o,n,hv⟩
 ·rw[hv] at Tg;exact Tg.ptr
 ·rw[hv] at Tg;exact Tg.own
 ·rw[hv] at Tg;exact Tg.mp
 ·rw[hv] at Tg;exact (Tg.agg _ hm).own
 ·rw[hv] at Tg;exact Tg.vw
theorem aBR (hp:AP st) {x y:Oper} (mT:rY ops x y=true) (Kt:∀t,lX st.aO (st.env t)) {s1 s2:St} (hx:cB P call ops x st=some s1) (hy:cB P call ops y s1=some s2) :
 ∃s3,cB P call ops y st=some s3∧cB P call ops x s3=some s2:=by
 rw[Eh] at hx hy;cases hex:rE P call ops x st with
 | none=>simp[hex] at hx
 | some ex =>
   simp only[hex,Option.map_some,Option.some.injEq] at hx;subst hx;rw[Sk hp (.inl mT) Kt hex] at hy;cases XU:rE P call ops y st with
   | none=>simp[XU] at hy
   | some ey =>
     simp only[XU,Option.map_some,Option.some.injEq] at hy;subst hy;refine⟨ey.apply st,by rw[Eh,XU];rfl, ?_⟩
     rw[Eh,Sk hp (.inr mT) Kt XU,hex];simp only[Option.map_some,Option.some.injEq];obtain⟨dx,nx,ux⟩:=oH hex
     obtain⟨dy,ny,uy⟩:=oH XU
     have hd:∀d,x.dst=some d→y.dst≠some d:=by
      simp only[rY,Bool.and_eq_true] at mT;exact (Oper.apart_spec mT.1).2.1
     have Az:¬(ex.dJ≠none∧ey.dJ≠none):=by
      rintro⟨h1,h2⟩
      cases hu:ex.dJ with
      | none=>exact h1 hu
      | some a=>cases hv:ey.dJ with
        | none=>exact h2 hv
        | some b =>
          have e1:=(ux a.1 a.2.1 a.2.2 hu).1
          have e2:=(uy b.1 b.2.1 b.2.2 hv).1
          simp[rY,e1,e2] at mT
     apply Q6
     ·funext t
      rw[nX,nX,nX,nX,dx,dy];by_cases h1:x.dst=some t
      ·rw[if_pos h1,if_pos h1,if_neg (hd t h1)]
      ·rw[if_neg h1,if_neg h1]
     ·funext s g
      rw[sL,sL,sL,sL];have cx:∀d z,ey.new=some (d,z)→(ex.apply st).aO d=st.aO d:=fun d z hn=>by
       rw[kT];split
       ·rename_i d' z' Hz
        rw[if_neg];rintro rfl
        exact hd _ (nx _ _ Hz) (ny _ _ hn)
       ·rfl
      have cy:∀d z,ex.new=some (d,z)→(ey.apply st).aO d=st.aO d:=fun d z hn=>by
       rw[kT];split
       ·rename_i d' z' Hz
        rw[if_neg];rintro rfl
        exact hd _ (nx _ _ hn) (ny _ _ Hz)
       ·rfl
      cases u7:ex.new with
      | none =>
        cases QU:ey.new with
        | none =>
          cases hux:ex.dJ with
          | none=>rfl
          | some a=>cases huy:ey.dJ with
            | none=>rfl
            | some b=>exact absurd ⟨by rw[hux];simp,by rw[huy];simp⟩ Az
        | some b =>
          obtain⟨d,z⟩:=b
          simp only[cx d z QU];cases hux:ex.dJ with
          | none=>rfl
          | some a =>
            obtain⟨s0,g0,e0⟩:=a
            have bA:=GW Kt hex hux
            cases huy:ey.dJ with
            | none =>
              simp only
              by_cases h1:s=d∧st.aO d≤g∧g-st.aO d<z.length
              ·rw[if_neg (by obtain⟨rfl,ha,hb⟩:=h1;rintro⟨rfl,rfl⟩;omega),if_pos h1,if_pos h1]
              ·rw[if_neg h1,if_neg h1]
            | some b=>exact absurd ⟨by rw[hux];simp,by rw[huy];simp⟩ Az
      | some a =>
        obtain⟨d,z⟩:=a
        cases QU:ey.new with
        | none =>
          simp only[cy d z u7];cases huy:ey.dJ with
          | none=>rfl
          | some a =>
            obtain⟨s0,g0,e0⟩:=a
            have bA:=GW Kt XU huy
            cases hux:ex.dJ with
            | none =>
              simp only
              by_cases h1:s=d∧st.aO d≤g∧g-st.aO d<z.length
              ·rw[if_pos h1,if_neg (by obtain⟨rfl,ha,hb⟩:=h1;rintro⟨rfl,rfl⟩;omega),if_pos h1]
              ·rw[if_neg h1,if_neg h1]
            | some b=>exact absurd ⟨by rw[hux];simp,by rw[huy];simp⟩ Az
        | some b =>
          obtain⟨d',z'⟩:=b
          simp only[cy d z u7,cx d' z' QU];have u9:d≠d':=by
           rintro rfl
           exact hd _ (nx _ _ u7) (ny _ _ QU)
          cases hux:ex.dJ with
          | none =>
            cases huy:ey.dJ with
            | none =>
              simp only
              by_cases h1:s=d∧st.aO d≤g∧g-st.aO d<z.length
              ·rw[if_pos h1,if_pos h1,if_neg (fun h=>u9 (h1.1.symm.trans h.1))]
              ·rw[if_neg h1,if_neg h1]
            | some b =>
              obtain⟨s0,g0,e0⟩:=b
              have bA:=GW Kt XU huy
              simp only
              by_cases h1:s=d∧st.aO d≤g∧g-st.aO d<z.length
              ·rw[if_pos h1,if_pos h1,if_neg (fun h=>u9 (h1.1.symm.trans h.1)),if_neg (by obtain⟨rfl,ha,hb⟩:=h1;rintro⟨rfl,rfl⟩;omega)]
              ·rw[if_neg h1,if_neg h1]
          | some a =>
            obtain⟨s0,g0,e0⟩:=a
            have bA:=GW Kt hex hux
            cases huy:ey.dJ with
            | none =>
              simp only
              by_cases h1:s=d∧st.aO d≤g∧g-st.aO d<z.length
              ·rw[if_pos h1,if_pos h1,if_neg (fun h=>u9 (h1.1.symm.trans h.1))]
              ·rw[if_neg h1,if_neg h1];by_cases h2:s=d'∧st.aO d'≤g∧g-st.aO d'<z'.length
               ·rw[if_pos h2,if_neg (by obtain⟨rfl,ha,hb⟩:=h2;rintro⟨rfl,rfl⟩;omega),if_pos h2]
               ·rw[if_neg h2,if_neg h2]
            | some b=>exact absurd ⟨by rw[hux];simp,by rw[huy];simp⟩ Az
     ·funext s
      cases u7:ex.new with
      | none=>cases QU:ey.new<;>simp only[kT,u7,QU]
      | some a =>
        obtain⟨d,z⟩:=a
        cases QU:ey.new with
        | none=>simp only[kT,u7,QU]
        | some b =>
          obtain⟨d',z'⟩:=b
          have u9:d≠d':=by
           rintro rfl
           exact hd _ (nx _ _ u7) (ny _ _ QU)
          simp only[kT,u7,QU];rw[if_neg u9,if_neg (Ne.symm u9)];by_cases h1:s=d
          ·subst h1;rw[if_neg u9,if_pos rfl,if_neg u9]
          ·rw[if_neg h1,if_neg h1]
def He (st st':St) (x:AV):Prop:=∀s g,keyOf x=some (some (s,g))→st'.heap s g=st.heap s g
theorem TS {x:AV} (h:He st st' x):pX st' x=pX st x:=by
 cases x<;>simp only[pX]
 rw[h _ _ rfl]
theorem vJ {x:AV} (h:He st st' x):aQ st' x=aQ st x:=by
 cases x
 case own=>simp only[aQ,h _ _ rfl]
 case vw=>simp only[aQ,h _ _ rfl]
 case v y =>
  cases y
  case slice p n c=>cases p<;>cases n<;>cases c<;>rfl
  all_goals rfl
 all_goals rfl
theorem Xn {T:Nat} {x i:AV} (h:He st st' x):bB P st' T x i=bB P st T x i:=by
 unfold bB;cases x<;>try rfl
 simp only[h _ _ rfl]
theorem TT {T:Nat} {x y:AV} (h:He st st' x):pI P st' T x y=pI P st T x y:=by
 unfold pI;cases x<;>try rfl
 simp only[h _ _ rfl]
theorem TU {T:Nat} {x:AV} {lo hi:Option Operand} (hx:He st st' x) (hl:∀p,lo=some p→st'.ev p=st.ev p) (Bx:∀p,hi=some p→st'.ev p=st.ev p):cU P st' T x lo hi=cU P st T x lo hi :=
 Xk (fun s g h=>by
  rcases h with ⟨o,rfl⟩|rfl|⟨o,n,rfl⟩<;>exact hx _ _ rfl) hl Bx
theorem MZ {T:Nat} {s x:AV} (hs:He st st' s) (hx:He st st' x):cX P st' T s x=cX P st T s x:=by
 unfold cX;rw[vJ hx];cases s
 case own=>simp only[hs _ _ rfl]
 case v y =>
  cases y
  case slice p n c=>cases p<;>cases n<;>cases c<;>rfl
  all_goals rfl
 all_goals rfl
theorem NA {T:Nat} {s x:AV} (hs:He st st' s) (hx:He st st' x):jZ P st' T s x=jZ P st T s x:=by
 unfold jZ;rw[vJ hx];cases dK P T with
 | none=>rfl
 | some t=>cases aQ st x with
   | none=>rfl
   | some mn =>
     cases s<;>try rfl
     case vw s g o n =>
      cases o with
      | zero=>simp only[hs _ _ rfl]
      | succ o=>rfl
theorem TV {r:AV} {dst:Option Nat} (hc:∀d,dst=some d→st'.aO d=st.aO d):iR r st' dst=iR r st dst:=by
 unfold iR;cases dst with
 | none=>rfl
 | some d=>simp only[hc d rfl]
theorem TW {g:Nat} {x:AV} {args:List AV} {dst:Option Nat} (hx:He st st' x) (hc:∀d,dst=some d→st'.aO d=st.aO d):kU call g (x :: args) st' dst=kU call g (x :: args) st dst:=by
 unfold kU;split
 ·rename_i s k rest heq;simp only[List.cons.injEq] at heq;obtain⟨rfl,rfl⟩:=heq
  rw[hx _ _ rfl];cases dst with
  | none=>rfl
  | some d=>simp only[hc d rfl]
 ·split
  ·rename_i hf;unfold aP;rw[if_pos hf,if_pos hf];have h2:∀r,iR r st' dst=iR r st dst:=fun r=>TV hc
   simp only[h2]
  ·rfl
theorem AX {o:Oper} {aS:List Nat} (h:gO o=some aS):o.guard=none:=by
 unfold gO at h;split at h
 ·cases h
 ·assumption
theorem GX {o:Oper} {aS:List Nat} (ha:gO o=some aS):rE P call ops o st=dH P call o st:=by
 unfold rE;rw[AX ha];rfl
inductive Sl:Op→List Nat→Prop
 | load (T a:Nat):Sl (.load T (.tmp a)) [a]
 | store (T a:Nat) (x:Operand):Sl (.store T (.tmp a) x) [a]
 | indexAddr (T a:Nat) (x:Operand):Sl (.indexAddr T (.tmp a) x) [a]
 | slice (T a:Nat) (lo hi mx:Option Operand):Sl (.slice T (.tmp a) lo hi mx) [a]
 | len (a:Nat) (args:Array Operand) (rL:Array Nat) (h:args.toList=[.tmp a]):Sl (.call ⟨.builtin .len,args,rL⟩) [a]
 | append (a b:Nat) (args:Array Operand) (rL:Array Nat) (h:args.toList=[.tmp a,.tmp b]):Sl (.call ⟨.builtin .append,args,rL⟩) [a,b]
 | mv (g a:Nat) (r:List Operand) (args:Array Operand) (rL:Array Nat) (h:args.toList=.tmp a :: r) (hg:Ext.mv g=true):Sl (.call ⟨.value (.func g),args,rL⟩) [a]
theorem Nx {o:Oper} {aS:List Nat} (h:gO o=some aS):Sl o.op aS:=by
 unfold gO at h;split at h
 ·cases h
 ·split at h
  ·rename_i T a ho;simp only[Option.some.injEq] at h;subst h;rw[ho];exact .load T a
  ·rename_i T a x ho;simp only[Option.some.injEq] at h;subst h;rw[ho];exact .store T a x
  ·rename_i T a x ho;simp only[Option.some.injEq] at h;subst h;rw[ho];exact .indexAddr T a x
  ·rename_i T a lo hi mx ho;simp only[Option.some.injEq] at h;subst h;rw[ho];exact .slice T a lo hi mx
  ·rename_i args rL ho;split at h
   ·rename_i a hl;simp only[Option.some.injEq] at h;subst h;rw[ho];exact .len a args rL hl
   ·cases h
  ·rename_i args rL ho;split at h
   ·rename_i a b hl;simp only[Option.some.injEq] at h;subst h;rw[ho];exact .append a b args rL hl
   ·cases h
  ·rename_i g args rL ho;split at h
   ·rename_i a r hl;split at h
    ·rename_i hg;simp only[Option.some.injEq] at h;subst h;rw[ho];exact .mv g a r args rL hl hg
    ·cases h
   ·cases h
  ·cases h
theorem v7 {T s g:Nat} {p x:AV} {e':mI} (hs:pI P st T p x=some (s,g,e')):∃o,p=.ptr s g o:=by
 unfold pI at hs;split at hs
 ·rename_i s1 g1 o1;split at hs
  ·split at hs
   ·split at hs
    ·split at hs
     ·simp only[Option.some.injEq,Prod.mk.injEq] at hs;obtain⟨rfl,rfl,_⟩:=hs;exact⟨_,rfl⟩
     ·cases hs
    ·split at hs
     ·simp only[Option.some.injEq,Prod.mk.injEq] at hs;obtain⟨rfl,rfl,_⟩:=hs;exact⟨_,rfl⟩
     ·cases hs
    ·cases hs
   ·cases hs
  ·cases hs
 ·cases hs
theorem TX {T s g:Nat} {p x:AV} {r:mI} (mT:cX P st T p x=some (some (s,g),r)):p=.own s g:=by
 unfold cX at mT;split at mT
 ·split at mT
  ·split at mT
   ·split at mT
    ·split at mT<;>simp at mT
    ·rename_i s3 g3;split at mT
     ·split at mT
      ·simp only[Option.some.injEq,Prod.mk.injEq] at mT;obtain⟨⟨rfl,rfl⟩,_⟩:=mT
       rfl
      ·cases mT
     ·cases mT
    ·split at mT<;>simp at mT
    ·cases mT
   ·cases mT
  ·cases mT
 ·cases mT
theorem Qs {o:Oper} {aS:List Nat} {e:qR} (ha:gO o=some aS) (h:rE P call ops o st=some e) :
 ∀s g z,e.dJ=some (s,g,z)→∃a∈aS,keyOf (st.env a)=some (some (s,g)):=by
 rw[GX ha] at h;have hk:=Nx ha
 clear ha
 obtain⟨dst,op,type,pos,after,guard⟩:=o
 have val:∀(v:Option AV),(v.map fun x=>({ dst:=dst,val:=x }:qR))=some e→e.dJ=none:=fun v hv=>by
  cases v with
  | none=>cases hv
  | some v=>simp only[Option.map_some,Option.some.injEq] at hv;subst hv;rfl
 intro s g z hu;cases hk
 case load T a=>simp only[dH] at h;rw[val _ h] at hu;cases hu
 case indexAddr T a x=>simp only[dH] at h;rw[val _ h] at hu;cases hu
 case slice T a lo hi mx=>simp only[dH] at h;rw[val _ h] at hu;cases hu
 case len a args rL hl =>
  simp only[dH,iA,hl] at h;split at h
  ·split at h
   ·simp only[Option.some.injEq] at h;subst h;cases hu
   ·cases h
  ·cases h
 case store T a x =>
  simp only[dH] at h;cases hs:pI P st T (st.ev (.tmp a)) (st.ev x) with
  | none=>simp[hs] at h
  | some u =>
    obtain⟨s',g',e'⟩:=u
    simp only[hs,Option.map_some,Option.some.injEq] at h;subst h;simp only[Option.some.injEq,Prod.mk.injEq] at hu;obtain⟨rfl,rfl,_⟩:=hu
    obtain⟨o1,ho1⟩:=v7 hs
    exact⟨a,by simp,by rw[show st.env a=st.ev (.tmp a) from rfl,ho1];rfl⟩
 case append a b args rL hl =>
  simp only[dH,iA,hl] at h;cases dst with
  | none=>simp[cH] at h
  | some d =>
    simp only[cH] at h;split at h
    ·rename_i s0 x0 T T' heq _
     simp only[List.cons.injEq,and_true] at heq;obtain⟨rfl,rfl⟩:=heq
     split at h
     ·split at h
      ·cases mT:jZ P st T (st.ev (.tmp a)) (st.ev (.tmp b)) with
       | none=>simp[mT] at h
       | some u =>
       simp only[mT,Option.map_some,Option.some.injEq] at h;subst h;simp only[Option.some.injEq,Prod.mk.injEq] at hu;obtain⟨rfl,rfl,rfl⟩:=hu
       obtain⟨n0,yU⟩:=Xm mT
       exact⟨a,by simp,by rw[show st.env a=st.ev (.tmp a) from rfl,yU];rfl⟩
      split at h
      ·simp only[Option.some.injEq] at h;subst h;cases hu
      cases mT:cX P st T (st.ev (.tmp a)) (st.ev (.tmp b)) with
      | none=>simp[mT] at h
      | some ur =>
        obtain⟨u,r⟩:=ur
        simp only[mT,Option.some.injEq] at h;subst h;cases u with
        | none=>cases hu
        | some p =>
          simp only[Option.map_some,Option.some.injEq,Prod.mk.injEq] at hu;obtain⟨rfl,rfl,_⟩:=hu
          exact⟨a,by simp,by rw[show st.env a=st.ev (.tmp a) from rfl,TX mT];rfl⟩
     ·cases h
    ·cases h
 case mv g' a r args rL hl hg =>
  simp only[dH,iA,mX] at h;rw[if_pos hg] at h;obtain⟨_,_,h3⟩:=Nw h
  have:=h3 s g z hu
  rw[hl] at this;simp only[List.map_cons,List.head?_cons,Option.some.injEq,St.ev] at this;exact⟨a,by simp,by rw[this];rfl⟩
theorem mem_congr {o:Oper} {aS:List Nat} (ha:gO o=some aS) (Zw:∀p∈o.op.operands,st'.ev p=st.ev p) (hh:∀a∈aS,He st st' (st.env a)) (hc:∀d,o.dst=some d→st'.aO d=st.aO d) :
 rE P call ops o st'=rE P call ops o st:=by
 rw[GX ha,GX ha];have hk:=Nx ha
 clear ha
 obtain⟨dst,op,type,pos,after,guard⟩:=o
 simp only at hk Zw hc
 cases hk
 case load T a =>
  have h1:st'.env a=st.env a:=Zw (.tmp a) (by simp[Op.operands])
  simp only[dH,iP,St.ev,h1,TS (hh a (by simp))]
 case store T a x =>
  have h1:st'.env a=st.env a:=Zw (.tmp a) (by simp[Op.operands])
  have h2:=Zw x (by simp[Op.operands])
  have h3:st'.ev (.tmp a)=st.ev (.tmp a):=h1
  simp only[dH,h2,h3];rw[show st.ev (.tmp a)=st.env a from rfl,TT (hh a (by simp))]
 case indexAddr T a x =>
  have h1:st'.env a=st.env a:=Zw (.tmp a) (by simp[Op.operands])
  have h2:=Zw x (by simp[Op.operands])
  have h3:st'.ev (.tmp a)=st.ev (.tmp a):=h1
  simp only[dH,iP,h2,h3];rw[show st.ev (.tmp a)=st.env a from rfl,Xn (hh a (by simp))]
 case slice T a lo hi mx =>
  have h1:st'.env a=st.env a:=Zw (.tmp a) (by simp[Op.operands])
  have h3:st'.ev (.tmp a)=st.ev (.tmp a):=h1
  have hl:∀p,lo=some p→st'.ev p=st.ev p:=fun p hp=>Zw p (by subst hp;simp[Op.operands])
  have Bx:∀p,hi=some p→st'.ev p=st.ev p:=fun p hp=>Zw p (by subst hp;simp[Op.operands])
  have hm:∀p,mx=some p→st'.ev p=st.ev p:=fun p hp=>Zw p (by subst hp;simp[Op.operands])
  have hS:=TU (P:=P) (T:=T) (hh a (by simp)) hl Bx
  cases mx with
  | none =>
    simp only[dH,iP,h3];rw[show st.ev (.tmp a)=st.env a from rfl,hS]
  | some m =>
    cases hi with
    | none=>rfl
    | some h =>
      simp only[dH,iP,h3];rw[Sj (fun s g hx=>hh a (by simp) s g (by rw[show st.env a=st.ev (.tmp a) from rfl,hx];rfl)) hl (Bx h rfl) (hm m rfl)]
 case len a args rL hl =>
  have h1:st'.env a=st.env a:=Zw (.tmp a) (by simp[Op.operands,Call.operands,← Array.mem_toList_iff,hl])
  have h3:st'.ev (.tmp a)=st.ev (.tmp a):=h1
  have hv:aQ st' (st'.ev (.tmp a))=aQ st (st.ev (.tmp a)):=by rw[h3];exact vJ (hh a (by simp))
  simp only[dH,iA,hl];cases rL.toList with
  | nil=>rfl
  | cons T r=>cases r with
    | nil=>simp only[hv]
    | cons _ _=>rfl
 case append a b args rL hl =>
  have h1:st'.ev (.tmp a)=st.ev (.tmp a):=Zw (.tmp a) (by simp[Op.operands,Call.operands,← Array.mem_toList_iff,hl])
  have h2:st'.ev (.tmp b)=st.ev (.tmp b):=Zw (.tmp b) (by simp[Op.operands,Call.operands,← Array.mem_toList_iff,hl])
  have hV:∀T,jZ P st' T (st.ev (.tmp a)) (st.ev (.tmp b))=jZ P st T (st.ev (.tmp a)) (st.ev (.tmp b)):=fun T=>NA (hh a (by simp)) (hh b (by simp))
  have hA:∀T,cX P st' T (st.ev (.tmp a)) (st.ev (.tmp b))=cX P st T (st.ev (.tmp a)) (st.ev (.tmp b)):=fun T=>MZ (hh a (by simp)) (hh b (by simp))
  simp only[dH,iA,hl];cases dst with
  | none=>rfl
  | some d =>
    simp only[cH,hc d rfl];cases rL.toList with
    | nil=>rfl
    | cons T r=>cases r with
      | nil=>rfl
      | cons T' r'=>cases r' with
        | nil =>
          have hn:Fx P st' T (st'.ev (.tmp a)) (st'.ev (.tmp b))=Fx P st T (st.ev (.tmp a)) (st.ev (.tmp b)):=by
           have h3:aQ st' (st.ev (.tmp b))=aQ st (st.ev (.tmp b)):=vJ (hh b (by simp))
           simp only[Fx,h1,h2,h3]
          simp only[];rw[hn,h1,h2,hA,hV]
        | cons _ _=>rfl
 case mv g' a r args rL hl hg =>
  have he:∀p∈args.toList,st'.ev p=st.ev p:=fun p hp=>Zw p (by simp[Op.operands,Call.operands,← Array.mem_toList_iff,hp])
  have h1:args.toList.map st'.ev=args.toList.map st.ev:=List.map_congr_left he
  simp only[dH,iA,mX];rw[if_pos hg,if_pos hg,h1,hl];simp only[List.map_cons];exact TW (hh a (by simp)) hc
theorem Q8 {x y:AV} (h:fM x y∨fM y x) {k k':Nat × Nat} (hx:keyOf x=some (some k)) (hy:keyOf y=some (some k')):k≠k':=by
 unfold fM at h;rw[hx,hy] at h;rcases h with h|h
 ·exact h
 ·exact fun e=>h e.symm
theorem Q9 {aO:Nat→Nat} {x:AV} {s g:Nat} (h:lX aO x) (hk:keyOf x=some (some (s,g))):g<aO s:=by
 cases x<;>simp only[keyOf,Option.some.injEq,Prod.mk.injEq,reduceCtorEq] at hk
 ·obtain⟨rfl,rfl⟩:=hk;exact h.ptr
 ·obtain⟨rfl,rfl⟩:=hk;exact h.own
 ·obtain⟨rfl,rfl⟩:=hk;exact h.vw
theorem DX {x y:Oper} {aS bs:List Nat} {ex:qR} (Kt:∀t,lX st.aO (st.env t)) (hax:gO x=some aS) (hay:gO y=some bs) (XT:∀d,x.dst=some d→d ∉ y.looksAt ops) (kN:∀d,x.dst=some d→y.dst≠some d)
 (hf:∀a∈aS,∀b∈bs,fM (st.env a) (st.env b)∨fM (st.env b) (st.env a)) (hx:rE P call ops x st=some ex):rE P call ops y (ex.apply st)=rE P call ops y st:=by
 obtain⟨sd,sn,_⟩:=oH hx
 have su:=Qs hax hx
 refine mem_congr hay (fun p hp=>?_) (fun b hb s g hk=>?_) fun d hd=>?_
 ·cases p with
  | tmp t =>
    show (ex.apply st).env t=st.env t
    rw[nX,if_neg];intro h;rw[sd] at h;exact XT t h (by unfold Oper.looksAt;exact List.mem_append_left _ (List.mem_filterMap.2 ⟨.tmp t,by simpa using hp,rfl⟩))
  | _=>rfl
 ·have bA:=Q9 (Kt b) hk
  have hupd:(match ex.dJ with|some (s0,g0,y)=>if s=s0∧g=g0 then y else st.heap s g|none=>st.heap s g)=st.heap s g:=by
   cases hu:ex.dJ with
   | none=>rfl
   | some u =>
     obtain⟨s0,g0,z⟩:=u
     obtain⟨a,ha,hka⟩:=su s0 g0 z hu
     simp only
     rw[if_neg];rintro⟨rfl,rfl⟩
     exact Q8 (hf a ha b hb) hka hk rfl
  rw[sL];split
  ·rename_i d es hn;rw[if_neg (by rintro⟨rfl,h,_⟩;omega)]
   exact hupd
  ·exact hupd
 ·rw[kT];split
  ·rename_i d' z hn
   rw[if_neg];rintro rfl
   exact kN _ (sn _ _ hn) hd
  ·rfl
theorem R0 {α:Type} {A B C D:Prop} [Decidable A] [Decidable B] [Decidable C] [Decidable D] {na nb uc ud h:α} (h1:A→¬B) (h2:A→¬D) (h3:C→¬B) (h4:C→¬D) :
 (if B then nb else if D then ud else if A then na else if C then uc else h)=(if A then na else if C then uc else if B then nb else if D then ud else h):=by
 by_cases a:A
 ·rw[if_neg (h1 a),if_neg (h2 a),if_pos a,if_pos a]
 ·rw[if_neg a,if_neg a];by_cases c:C
  ·rw[if_neg (h3 c),if_neg (h4 c),if_pos c,if_pos c]
  ·rw[if_neg c,if_neg c]
def Qt (e:qR) (aO:Nat→Nat) (s g:Nat):Prop:=∃d es,e.new=some (d,es)∧s=d∧aO d≤g∧g-aO d<es.length
def TY (e:qR) (s g:Nat):Prop:=∃z,e.dJ=some (s,g,z)
def Hf (e:qR) (aO:Nat→Nat) (g:Nat):Option mI:=match e.new with|some (d,es)=>es[g-aO d]? | none=>none
def TZ (e:qR):Option mI:=match e.dJ with|some (_,_,z)=>z|none=>none
theorem An (e:qR) (st:St) (s g:Nat):(e.apply st).heap s g=if Qt e st.aO s g then Hf e st.aO g else if TY e s g then TZ e else st.heap s g:=by
 have hu:(match e.dJ with|some (s0,g0,y)=>if s=s0∧g=g0 then y else st.heap s g|none=>st.heap s g)=if TY e s g then TZ e else st.heap s g:=by
  unfold TY TZ;cases hu:e.dJ with
  | none=>simp
  | some u =>
    obtain⟨s0,g0,z⟩:=u
    simp only
    by_cases h:s=s0∧g=g0
    ·obtain⟨rfl,rfl⟩:=h
     rw[if_pos ⟨rfl,rfl⟩,if_pos ⟨z,rfl⟩]
    ·rw[if_neg h,if_neg];rintro⟨z',h'⟩
     simp only[Option.some.injEq,Prod.mk.injEq] at h'
     exact h ⟨h'.1.symm,h'.2.1.symm⟩
 rw[sL];unfold Qt Hf;cases hn:e.new with
 | none=>simp only;rw[if_neg (by rintro⟨d,es,h,_⟩;cases h)];exact hu
 | some p =>
   obtain⟨d,es⟩:=p
   simp only
   by_cases h:s=d∧st.aO d≤g∧g-st.aO d<es.length
   ·rw[if_pos h,if_pos ⟨d,es,rfl,h⟩]
   ·rw[if_neg h,if_neg]
    ·exact hu
    ·rintro⟨d',es',h',h2⟩
     simp only[Option.some.injEq,Prod.mk.injEq] at h'
     obtain⟨rfl,rfl⟩:=h'
     exact h h2
theorem R1 {x y:Oper} {aS bs:List Nat} (Kt:∀t,lX st.aO (st.env t)) (hax:gO x=some aS) (hay:gO y=some bs) (mT:Oper.apart ops x y=true) (hf:Kd st aS bs) {s1 s2:St} (hx:cB P call ops x st=some s1) (hy:cB P call ops y s1=some s2) :
 ∃s3,cB P call ops y st=some s3∧cB P call ops x s3=some s2:=by
 obtain⟨l1,l2,l3⟩:=Oper.apart_spec mT
 have l2':∀d,y.dst=some d→x.dst≠some d:=fun d hd hx=>l2 d hx hd
 rw[Eh] at hx hy;cases hex:rE P call ops x st with
 | none=>simp[hex] at hx
 | some ex =>
   simp only[hex,Option.map_some,Option.some.injEq] at hx;subst hx;rw[DX Kt hax hay l1 l2 (fun a ha b hb=>.inl (hf a ha b hb)) hex] at hy
   cases XU:rE P call ops y st with
   | none=>simp[XU] at hy
   | some ey =>
     simp only[XU,Option.map_some,Option.some.injEq] at hy;subst hy;refine⟨ey.apply st,by rw[Eh,XU];rfl, ?_⟩
     rw[Eh,DX Kt hay hax l3 l2' (fun b hb a ha=>.inr (hf a ha b hb)) XU,hex]
     simp only[Option.map_some,Option.some.injEq];obtain⟨dx,nx,_⟩:=oH hex
     obtain⟨dy,ny,_⟩:=oH XU
     have ux:=Qs hax hex
     have uy:=Qs hay XU
     have cx:∀d z,ey.new=some (d,z)→(ex.apply st).aO d=st.aO d:=fun d z hn=>by
      rw[kT];split
      ·rename_i d' z' Hz
       rw[if_neg];rintro rfl
       exact l2 _ (nx _ _ Hz) (ny _ _ hn)
      ·rfl
     have cy:∀d z,ex.new=some (d,z)→(ey.apply st).aO d=st.aO d:=fun d z hn=>by
      rw[kT];split
      ·rename_i d' z' Hz
       rw[if_neg];rintro rfl
       exact l2 _ (nx _ _ hn) (ny _ _ Hz)
      ·rfl
     apply Q6
     ·funext t
      rw[nX,nX,nX,nX,dx,dy];by_cases h1:x.dst=some t
      ·rw[if_pos h1,if_pos h1,if_neg (l2 t h1)]
      ·rw[if_neg h1,if_neg h1]
     ·funext s g
      have nyE:Qt ey (ex.apply st).aO s g↔Qt ey st.aO s g:=by
       constructor
       ·rintro⟨d,es,h,h2⟩;rw[cx d es h] at h2;exact⟨d,es,h,h2⟩
       ·rintro⟨d,es,h,h2⟩;rw[← cx d es h] at h2;exact⟨d,es,h,h2⟩
      have nxE:Qt ex (ey.apply st).aO s g↔Qt ex st.aO s g:=by
       constructor
       ·rintro⟨d,es,h,h2⟩;rw[cy d es h] at h2;exact⟨d,es,h,h2⟩
       ·rintro⟨d,es,h,h2⟩;rw[← cy d es h] at h2;exact⟨d,es,h,h2⟩
      have vyE:Hf ey (ex.apply st).aO g=Hf ey st.aO g:=by
       unfold Hf;cases hn:ey.new with
       | none=>rfl
       | some p=>simp only[cx p.1 p.2 hn]
      have vxE:Hf ex (ey.apply st).aO g=Hf ex st.aO g:=by
       unfold Hf;cases hn:ex.new with
       | none=>rfl
       | some p=>simp only[cy p.1 p.2 hn]
      rw[An,An,An,An];simp only[nyE,nxE,vyE,vxE];symm
      have idk:∀a s g,keyOf (st.env a)=some (some (s,g))→g<st.aO s:=fun a s g h=>Q9 (Kt a) h
      refine R0 ?_ ?_ ?_ ?_
      ·rintro⟨d,es,h,rfl,_⟩ ⟨d',es',h',rfl,_⟩
       exact l2 _ (nx _ _ h) (ny _ _ h')
      ·rintro⟨d,es,h,rfl,h1,_⟩ ⟨z,h'⟩
       obtain⟨b,_,hb⟩:=uy _ _ _ h'
       have:=idk b _ _ hb
       omega
      ·rintro⟨z,h⟩ ⟨d,es,h',rfl,h1,_⟩
       obtain⟨a,_,ha⟩:=ux _ _ _ h
       have:=idk a _ _ ha
       omega
      ·rintro⟨z,h⟩ ⟨z',h'⟩
       obtain⟨a,ha,hka⟩:=ux _ _ _ h
       obtain⟨b,hb,hkb⟩:=uy _ _ _ h'
       exact Q8 (.inl (hf a ha b hb)) hka hkb rfl
     ·funext s
      rw[kT,kT];cases u7:ex.new with
      | none=>cases QU:ey.new<;>simp only[kT,u7,QU]
      | some a =>
        obtain⟨d,z⟩:=a
        cases QU:ey.new with
        | none=>simp only[kT,u7,QU]
        | some b =>
          obtain⟨d',z'⟩:=b
          have u9:d≠d':=by
           rintro rfl
           exact l2 _ (nx _ _ u7) (ny _ _ QU)
          simp only[kT,u7,QU];rw[if_neg u9,if_neg (Ne.symm u9)];by_cases h1:s=d
          ·subst h1;rw[if_neg u9,if_pos rfl,if_neg u9]
          ·rw[if_neg h1,if_neg h1]
end
end Go.Ab
end
