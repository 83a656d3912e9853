/-
  Part 3 of the proof: an evaluator of programs, its soundness, and what functions of this program compute.
-/
import Derived.Test.YtmcjkemalibacaaGreatK2
import Derived.Deep.Upon
set_option linter.all false
set_option maxRecDepth 20000
set_option maxHeartbeats 40000000
section
namespace Go.Ab
open Classical
section
variable {P:Program} {h0:Nat→Obj→Prop} {w0:World} {F:Hs} {nt:Nat} {ρ:Nat→Nat→Value} {st:St} {a:Act} {w:World} {K:Act→World→Prop} {Q:Exit→Act→World→Prop}
theorem Gj {base T ty e:Nat} {ei:TypeInfo} {ez:Value} (hT:P.underlying T=some (.slice e)) (Cw:P.info? e=some ei) (DG:ei.zero=some ez) (Uw:ez.cells.size=ei.size) (Cl:0<ei.size)
 (xD:base≤w.heap.size) {v:Value} {n:Nat} {xs:List Value} (vA:mP w base e ei.size v n xs)
 {p:Option Addr} {m c:Nat} {news:List Value} (hl:news.length=m * ei.size) (Z1:news≠[]→∃ad,p=some ad∧∀(j:Nat) (u:Value),news[j]? = some u→w.cell? (ad.add j)=some u)
 (h1:∀u∈news,u.oneCell'=true) (h63:n+m≤maxLen) (hb:(n+m) * ei.bytes≤140737488355328) :
 ∃v' w',(Builtin.append_ #[T,T] ty #[v,.slice p m c]).run P w=.ok v' w'∧mP w' base e ei.size v' (n+m) (xs++news)∧w.grownBy w' (cW v)∧(∀b,cW v'=some b→cW v=some b∨w.heap.size≤b):=by
 by_cases hm:m=0
 ·subst hm;have hn:news=[]:=List.eq_nil_of_length_eq_zero (by simpa using hl)
  subst hn;refine⟨v,w, ?_,by simpa using vA,⟨rfl,rfl,rfl,Nat.le_refl _,fun _ _ _=>rfl⟩,fun b hb=>.inl hb⟩
  have hfc:∀(x:Value),(∃p,x=.slice p 0 c)→(Builtin.firstCells ei.size 0 x).run P w=.ok #[] w:=by
   rintro x ⟨p,rfl⟩
   cases p<;>simp[Builtin.firstCells,loadCells,loadCellsFrom]
  rcases vA.2 with ⟨q,rfl,rfl⟩|⟨g,cap,cur,rfl,_,_,Wd,_⟩
  ·cases q<;>simp[Builtin.append_,aX hT,run_sizeOf w Cw,Builtin.lenOf,hfc _ ⟨p,rfl⟩,storeCells]
  ·simp[Builtin.append_,aX hT,run_sizeOf w Cw,Builtin.lenOf,hfc _ ⟨p,rfl⟩,Wd,storeCells]
 ·have gN:news≠[]:=by
   intro h;subst h;have:0<m * ei.size:=Nat.mul_pos (by omega) Cl
   simp at hl
   omega
  obtain⟨ad,rfl,AN⟩:=Z1 gN
  have hlen:(xs++news).length=(n+m) * ei.size:=by rw[List.length_append,vA.1,hl,Nat.add_mul]
  have grow:∀(ga:Addr) (cap:Nat),cap<n+m→(∀(j:Nat) (u:Value),xs[j]? = some u→w.cell? (ga.add j)=some u)→∃v' w',(Builtin.append_ #[T,T] ty #[.slice (some ga) n cap,.slice (some ad) m c]).run P w=.ok v' w' ∧
   mP w' base e ei.size v' (n+m) (xs++news)∧w.grownBy w' none∧∀b,cW v'=some b→w.heap.size≤b:=by
   intro ga cap u4 holds;have hr:=run_append_grow (P:=P) w T ty e ei ez hT Cw DG ga n cap xs vA.1 holds ad m c news hl AN (by omega) (by simp only[maxLen] at h63;omega) (growslice_fits (by omega) hb)
   have hge:=grownCap_ge w (n+m) cap e
   have aGv:=grownCap_le_maxLen w (n+m) cap e h63
   refine⟨_,_,hr,⟨hlen,.inr ⟨w.heap.size,_,_,rfl,xD,heap_alloc_new w.drew _,hge,aGv, ?_, ?_,by omega⟩⟩,⟨rfl,rfl,rfl,by simp,fun k hk _=>heap_alloc_old w.drew _ hk⟩,fun b hb=>?_⟩
   ·simp only[Array.size_append,List.size_toArray,size_zeroCells,Uw,vA.1,hl,← Nat.add_mul];congr 1
    omega
   ·simp only[Array.toList_append,List.append_assoc];rw[← List.append_assoc,← hlen];exact List.take_left
   ·rw[jE (by omega)] at hb
    simp at hb
    omega
  rcases vA.2 with ⟨q,rfl,rfl⟩|⟨g,cap,cur,rfl,hbg,hg,Wd,G6,AI,htake,pT⟩
  ·have hx:xs=[]:=List.eq_nil_of_length_eq_zero (by simpa using vA.1)
   cases q with
   | none =>
     subst hx;obtain⟨v',w',hr,ho,hgr,_⟩:=run_append_own (P:=P) w w.heap.size T ty e ei ez ei.size ei.bytes hT Cw DG rfl rfl Uw Cl (.slice none 0 0) 0 [] (World.ownsRow_nil w _ e ei.size)
      ad m c news hl AN h1 (by simpa using h63) (by simpa using hb) (Nat.le_refl _)
     exact⟨v',w',hr,vM (Hx ho) xD,hgr,fun b hb=>.inr ((vN (Hx ho) b hb).1)⟩
   | some ga =>
     obtain⟨v',w',hr,ho,hgr,oC⟩:=grow ga 0 (by omega) (by rw[hx];simp)
     exact⟨v',w',hr,ho,by rw[oE];exact hgr,fun b hb=>.inr (oC b hb)⟩
  ·by_cases u4:n+m≤cap
   ·have aCO:n * ei.size+news.length≤cur.size:=by rw[hl,AI,← Nat.add_mul];exact Nat.mul_le_mul_right _ u4
    have hr:=run_append_room (P:=P) w T ty e ei hT Cw g n cap cur hg ad m c news hl AN h1 u4 aCO
    refine⟨_,_,hr,⟨hlen,.inr ⟨g,cap,_,rfl,hbg,setRow_heap w g cur _ e _ hg,u4,G6, ?_, ?_,pT⟩⟩,⟨rfl,rfl,rfl,by simp,fun k _ hk=>setRow_other w g k _ (fun e=>hk (by rw[jE pT,e]))⟩,fun b hb=>.inl (by rw[jE pT] at hb ⊢;exact hb)⟩
    ·simp only[List.size_toArray,List.length_append,List.length_take,List.length_drop,Array.length_toList];omega
    ·rw[htake,← hlen];exact List.take_left
   ·have holds:∀(j:Nat) (u:Value),xs[j]? = some u→w.cell? ((⟨g,0,none⟩:Addr).add j)=some u:=fun j u hu=>by
     rw[lB,Nat.zero_add,cell_of_row w g j cur e (0,0) hg];rw[← htake,List.getElem?_take] at hu;split at hu
     ·simpa using hu
     ·cases hu
    obtain⟨v',w',hr,ho,hgr,oC⟩:=grow ⟨g,0,none⟩ cap (by omega) holds
    exact⟨v',w',hr,ho,⟨hgr.os,hgr.tape,hgr.output,hgr.size,fun k hk _=>hgr.block k hk (by simp)⟩,fun b hb=>.inr (oC b hb)⟩
theorem lG (dst:Option Nat) (v:AV) (d:Nat) (x:mV):qE.apply { dst:=dst,val:=v,new:=some (d,[x])} st=(st.new d x).put dst v:=by
 simp only[qE.apply,Xy]
theorem Tn (dst:Option Nat) (v:AV) (s g d:Nat) (z:Option mV) (x:mV):qE.apply { dst:=dst,val:=v,dJ:=some (s,g,z),new:=some (d,[x])} st=((st.jA s g z).new d x).put dst v:=by
 simp only[qE.apply,Xy]
theorem JY (S:kJ F h0 w0 nt ρ st a w) {T ty d:Nat} {s x:AV} {u:Option (Nat × Nat)} {r:mV} {sv xv:Value} (hd:d<nt) (h:cZ P st T s x=some (u,r))
 (hs:cS (ctx h0 w0 ρ st w) s sv) (hx:cS (ctx h0 w0 ρ st w) x xv) :
 ∃v w' nY,(Builtin.append_ #[T,T] ty #[sv,xv]).run P w=.ok v w' ∧
  kJ F h0 w0 nt nY (qE.apply { dst:=some d,val:=.own d (st.aP d),dJ:=u.map fun p=>(p.1,p.2,none),new:=some (d,[r])} st) (a.put (some d) v) w':=by
 unfold cZ at h;cases UI:dL P T with
 | none=>simp[UI] at h
 | some t =>
   obtain⟨e,sz,by_⟩:=t
   simp only[UI] at h;obtain⟨ei,ez,hT,Cw,DG,rfl,Uw,rfl,Cl⟩:=jY UI
   cases hv:aQ st x with
   | none=>simp[hv] at h
   | some mn =>
     obtain⟨m,news⟩:=mn
     simp only[hv] at h;split at h
     ·rename_i hlen;obtain⟨p,c,rfl,Z1⟩:=sX S hv hx
      have Z2:∃nv:List Value,fQ (ctx h0 w0 ρ st w) news nv∧(nv≠[]→∃ad,p=some ad∧∀(j:Nat) (u:Value),nv[j]? = some u→w.cell? (ad.add j)=some u):=by
       by_cases gN:news=[]
       ·subst gN;exact⟨[],.nil _,fun h=>absurd rfl h⟩
       ·obtain⟨b,off,arr,T',fr,hp,hb,hc⟩:=Z1 gN
        refine⟨_,hc,fun _=>⟨_,hp,fun j u hu=>?_⟩⟩
        rw[lB,cell_of_row w b (off+j) arr T' fr hb];rw[List.getElem?_take] at hu;split at hu
        ·rw[List.getElem?_drop] at hu;simpa using hu
        ·cases hu
      obtain⟨nv,Wd,oA⟩:=Z2
      have UG:nv.length=m * ei.size:=by rw[← Wd.len,hlen]
      have Sj:∀u∈nv,u.oneCell'=true:=fun u hu=>by
       obtain⟨j,hj,rfl⟩:=List.getElem_of_mem hu
       exact Wd.one j _ (by simp)
      split at h
      ·split at h
       ·rename_i hc;simp only[Option.some.injEq,Prod.mk.injEq] at h;obtain⟨rfl,rfl⟩:=h
        have:=iH hs
        subst this;obtain⟨v',w',hr,ho,hg,UE⟩:=Gj (P:=P) (w:=w) (base:=w.heap.size) (ty:=ty) hT Cw DG Uw Cl (Nat.le_refl _) (Hx (World.ownsRow_nil w _ e ei.size)) (p:=p) (c:=c) UG oA Sj (by simpa using hc.2) (by simpa using hc.1)
        simp only[Nat.zero_add,List.nil_append] at ho;obtain⟨nY,S'⟩:=S.newRow d hd hg e ei.size m news nv v' ho Wd
        exact⟨v',w',nY,hr,by rw[Option.map_none,lG];exact S'⟩
       ·cases h
      ·rename_i s' g'
       cases he:st.heap s' g' with
       | none=>simp[he] at h
       | some e' =>
         cases e' with
         | row e2 sz2 n cs =>
           simp only[he] at h;split at h
           ·rename_i hc;obtain⟨rfl,rfl,hb,h63⟩:=hc
            simp only[Option.some.injEq,Prod.mk.injEq] at h;obtain⟨rfl,rfl⟩:=h
            obtain⟨_,_,xs,ho,AI⟩:=S.sF s' g' _ he
            cases hs with
            | own _ _ hg1 ho1 =>
              obtain⟨v',w',hr,ho',hg,UE⟩:=Gj (P:=P) (w:=w) (ty:=ty) hT Cw DG Uw Cl S.ext.size ho (p:=p) (c:=c) UG oA Sj h63 hb
              obtain⟨S',k,oZ⟩:=S.O8 he hg d (.row e2 ei.size (n+m) (cs++news)) v' (pS ho') UE (fun C k=>⟨xs++nv,ho',(AI.app Wd).le k⟩)
              have aY:st.aP d<(ctx h0 w0 (uC ρ d (st.aP d) v') ((st.jA s' g' none).new d (.row e2 ei.size (n+m) (cs++news))) w').aP d:=by simp[ctx,St.new,St.jA]
              have jR:(ctx h0 w0 (uC ρ d (st.aP d) v') ((st.jA s' g' none).new d (.row e2 ei.size (n+m) (cs++news))) w').ρ d (st.aP d)=v':=oZ
              have:=cS.own (C:=ctx h0 w0 (uC ρ d (st.aP d) v') ((st.jA s' g' none).new d (.row e2 ei.size (n+m) (cs++news))) w') d (st.aP d) aY (by rw[jR];exact pS ho')
              rw[jR] at this;have hS:=S'.put (some d) (fun t ht=>by cases ht;exact hd) this
              exact⟨v',w',_,hr,by rw[Option.map_some,Tn];exact hS⟩
           ·cases h
         | _=>simp[he] at h
      ·rename_i n cs;split at h
       ·rename_i hc;obtain⟨c1,c2,c3,c4⟩:=hc
        simp only[Option.some.injEq,Prod.mk.injEq] at h;obtain⟨rfl,rfl⟩:=h
        have main:∀(q:Option Addr) (ys:List Value),sv=.slice q n n→fQ (ctx h0 w0 ρ st w) cs ys→(ys≠[]→∃ad,q=some ad∧∀(j:Nat) (u:Value),ys[j]? = some u→w.cell? (ad.add j)=some u) →
         ∃v' w',(Builtin.append_ #[T,T] ty #[sv,.slice p m c]).run P w=.ok v' w'∧mP w' w.heap.size e ei.size v' (n+m) (ys++nv)∧w.grownBy w' none:=by
         rintro q ys rfl We hcell'
         have hyl:ys.length=n * ei.size:=by rw[← We.len,c1]
         by_cases hm:m=0
         ·have hn0:n=0:=by omega
          subst hm;subst hn0;have hy0:ys=[]:=List.eq_nil_of_length_eq_zero (by simpa using hyl)
          have hn0:nv=[]:=List.eq_nil_of_length_eq_zero (by simpa using UG)
          subst hy0;subst hn0;obtain⟨v',w',hr,ho,hg,_⟩:=Gj (P:=P) (w:=w) (base:=w.heap.size) (ty:=ty) (v:=.slice q 0 0) (n:=0) (xs:=[]) hT Cw DG Uw Cl (Nat.le_refl _) ⟨by simp,.inl ⟨q,rfl,rfl⟩⟩ (p:=p) (c:=c) UG oA (by simp) c4 c3
          rw[oE] at hg;exact⟨v',w',hr,ho,hg⟩
         ·have gN:nv≠[]:=by
           intro h;rw[h] at UG;have:0<m * ei.size:=Nat.mul_pos (by omega) Cl
           simp at UG
           omega
          obtain⟨ad,rfl,AN⟩:=oA gN
          have hlen':(ys++nv).length=(n+m) * ei.size:=by rw[List.length_append,hyl,UG,Nat.add_mul]
          cases q with
          | none =>
            have hy0:ys=[]:=by
             by_cases h:ys=[]
             ·exact h
             ·obtain⟨ad,h1,_⟩:=hcell' h
              cases h1
            subst hy0;have hn0:n=0:=by
             rcases Nat.eq_zero_or_pos n with h|h
             ·exact h
             ·have:=Nat.mul_pos h Cl
              simp at hyl
              omega
            subst hn0;obtain⟨v',w',hr,ho,hg,_⟩:=Gj (P:=P) (w:=w) (base:=w.heap.size) (ty:=ty) (v:=.slice none 0 0) (n:=0) (xs:=[]) hT Cw DG Uw Cl (Nat.le_refl _) ⟨by simp,.inl ⟨none,rfl,rfl⟩⟩ (p:=some ad) (c:=c) UG oA Sj c4 c3
            rw[oE] at hg;exact⟨v',w',hr,ho,hg⟩
          | some ga =>
            have holds:∀(j:Nat) (u:Value),ys[j]? = some u→w.cell? (ga.add j)=some u:=fun j u hu=>by
             have hne':ys≠[]:=by intro h;rw[h] at hu;simp at hu
             obtain⟨ad',h1,h2⟩:=hcell' hne'
             cases h1
             exact h2 j u hu
            have hr:=run_append_grow (P:=P) w T ty e ei ez hT Cw DG ga n n ys hyl holds ad m c nv UG AN (by omega) (by simp only[maxLen] at c4;omega) (growslice_fits (by omega) c3)
            have hge:=grownCap_ge w (n+m) n e
            have aGv:=grownCap_le_maxLen w (n+m) n e c4
            refine⟨_,_,hr,⟨hlen',.inr ⟨w.heap.size,_,_,rfl,Nat.le_refl _,heap_alloc_new w.drew _,hge,aGv, ?_, ?_,by omega⟩⟩,⟨rfl,rfl,rfl,by simp,fun k hk _=>heap_alloc_old w.drew _ hk⟩⟩
            ·simp only[Array.size_append,List.size_toArray,size_zeroCells,Uw,hyl,UG,← Nat.add_mul];congr 1
             omega
            ·simp only[Array.toList_append,List.append_assoc];rw[← List.append_assoc,← hlen'];exact List.take_left
        have fin:∀(ys:List Value),fQ (ctx h0 w0 ρ st w) cs ys→(∃v' w',(Builtin.append_ #[T,T] ty #[sv,.slice p m c]).run P w=.ok v' w'∧mP w' w.heap.size e ei.size v' (n+m) (ys++nv)∧w.grownBy w' none) →
         ∃v w' nY,(Builtin.append_ #[T,T] ty #[sv,.slice p m c]).run P w=.ok v w' ∧
          kJ F h0 w0 nt nY (qE.apply { dst:=some d,val:=.own d (st.aP d),dJ:=(none:Option (Nat × Nat)).map fun p=>(p.1,p.2,none),new:=some (d,[.row e ei.size (n+m) (cs++news)])} st) (a.put (some d) v) w':=by
         rintro ys We ⟨v',w',hr,ho,hg⟩
         obtain⟨nY,S'⟩:=S.newRow d hd hg e ei.size (n+m) (cs++news) (ys++nv) v' ho (We.app Wd)
         exact⟨v',w',nY,hr,by rw[Option.map_none,lG];exact S'⟩
        cases hs with
        | cl0 n q=>exact fin [] (.nil _) (main q [] rfl (.nil _) (by simp))
        | cl n cs b off arr T' fr hb hle hr FR =>
          have Ay:fQ (ctx h0 w0 ρ st w) cs ((arr.toList.drop off).take cs.length):=by
           refine⟨by simp;omega,fun i x y hx hy=>?_,fun i y hy=>?_⟩
           ·have hi:=(List.getElem?_eq_some_iff.1 hx).1
            rw[List.getElem?_take,if_pos hi,List.getElem?_drop] at hy;exact hr i x y hx (by simpa using hy)
           ·rw[List.getElem?_take] at hy;split at hy
            ·rename_i hi;rw[List.getElem?_drop] at hy;exact FR i y hi (by simpa using hy)
            ·cases hy
          refine fin _ Ay (main _ _ rfl Ay fun _=>⟨⟨b,off,none⟩,rfl,fun j u hu=>?_⟩)
          rw[lB,cell_of_row w b (off+j) arr T' fr hb.1];rw[List.getElem?_take] at hu;split at hu
          ·rw[List.getElem?_drop] at hu;simpa using hu
          ·cases hu
       ·cases h
      ·cases h
     ·cases h
theorem DU (S:kJ F h0 w0 nt ρ st a w) {T ty:Nat} {s x:AV} {u:Nat × Nat × mV × Nat} {sv xv:Value} (h:kS P st T s x=some u)
 (hs:cS (ctx h0 w0 ρ st w) s sv) (hx:cS (ctx h0 w0 ρ st w) x xv) :
 ∃v w',(Builtin.append_ #[T,T] ty #[sv,xv]).run P w=.ok v w'∧kJ F h0 w0 nt ρ (st.jA u.1 u.2.1 (some u.2.2.1)) a w' ∧
  cS (ctx h0 w0 ρ (st.jA u.1 u.2.1 (some u.2.2.1)) w') (.vw u.1 u.2.1 0 u.2.2.2) v:=by
 unfold kS at h;split at h
 ·rename_i e sz by_ m news s' g' k UI hv
  obtain⟨ei,ez,hT,Cw,DG,rfl,Uw,rfl,Cl⟩:=jY UI
  cases he:st.heap s' g' with
  | none=>simp[he] at h
  | some en =>
    cases en with
    | row e' sJ n cs =>
      simp only[he] at h;split at h
      ·rename_i hc;obtain⟨rfl,rfl,hlen,aCO⟩:=hc
       simp only[Option.some.injEq] at h;subst h;obtain⟨p,c,rfl,Z1⟩:=sX S hv hx
       have Z2:∃nv:List Value,fQ (ctx h0 w0 ρ st w) news nv∧(nv≠[]→∃ad,p=some ad∧∀(j:Nat) (u:Value),nv[j]? = some u→w.cell? (ad.add j)=some u):=by
        by_cases gN:news=[]
        ·subst gN;exact⟨[],.nil _,fun h=>absurd rfl h⟩
        ·obtain⟨b,off,arr,T',fr,hp,hb,hc⟩:=Z1 gN
         refine⟨_,hc,fun _=>⟨_,hp,fun j u hu=>?_⟩⟩
         rw[lB,cell_of_row w b (off+j) arr T' fr hb];rw[List.getElem?_take] at hu;split at hu
         ·rw[List.getElem?_drop] at hu;simpa using hu
         ·cases hu
       obtain⟨nv,Wd,oA⟩:=Z2
       have UG:nv.length=m * ei.size:=by rw[← Wd.len,hlen]
       have Sj:∀u∈nv,u.oneCell'=true:=fun u hu=>by
        obtain⟨j,hj,rfl⟩:=List.getElem_of_mem hu
        exact Wd.one j _ (by simp)
       obtain⟨_,_,xs,ho,Ay⟩:=S.sF s' g' _ he
       cases hs with
       | vw _ _ _ _ b cap hg hb mY zJ =>
         have oC:cW (ρ s' g')=some b:=hb
         rcases ho.2 with ⟨q,jR,hn⟩|⟨b',DF,cur,jR,xD,hh,H2,G6,AI,ht,pT⟩
         ·rw[jR,oE] at oC;cases oC
         ·have wO:b'=b:=by rw[jR,jE pT] at oC;simpa using oC
          subst wO;have hcc:cap=DF:=zJ rfl _ _ _ jR
          subst hcc;have hkm:(k+m) * ei.size≤n * ei.size:=Nat.mul_le_mul_right _ aCO
          have hnn:n * ei.size≤cap * ei.size:=Nat.mul_le_mul_right _ H2
          rw[Nat.add_mul] at hkm;have hcl':cur.toList.length=cur.size:=rfl
          have qD:(Builtin.append_ #[T,T] ty #[.slice (some ⟨b',0,none⟩) k cap,.slice p m c]).run P w=.ok (.slice (some ⟨b',0,none⟩) (k+m) cap) (w.setRow b' (cur.toList.take (k * ei.size)++nv++cur.toList.drop (k * ei.size+nv.length)).toArray):=by
           by_cases gN:nv=[]
           ·have hm:m=0:=by
             rw[gN] at UG;rcases Nat.eq_zero_or_pos m with h|h
             ·exact h
             ·have:=Nat.mul_pos h Cl
              simp at UG
              omega
            subst hm;have hfc:∀(x:Value),(∃p,x=.slice p 0 c)→(Builtin.firstCells ei.size 0 x).run P w=.ok #[] w:=by
             rintro x ⟨p,rfl⟩
             cases p<;>simp[Builtin.firstCells,loadCells,loadCellsFrom]
            have e0:(cur.toList.take (k * ei.size)++nv++cur.toList.drop (k * ei.size+nv.length)).toArray=cur:=by
             rw[gN];simp
            rw[e0,setRow_self w b' cur e' (0,0) hh];have hkc:k≤cap:=by omega
            simp[Builtin.append_,aX hT,run_sizeOf w Cw,Builtin.lenOf,hfc _ ⟨p,rfl⟩,storeCells,hkc]
           ·obtain⟨ad,rfl,AN⟩:=oA gN
            exact run_append_room (P:=P) w T ty e' ei hT Cw b' k cap cur hh ad m c nv UG AN Sj (by omega) (by omega)
          have hxl:=ho.1
          have hcsl:=Ay.len
          have S':=S.store (e':=.row e' ei.size n (cs.take (k * ei.size)++news++cs.drop (k * ei.size+m * ei.size))) (w':=w.setRow b' (cur.toList.take (k * ei.size)++nv++cur.toList.drop (k * ei.size+nv.length)).toArray) he oC ⟨rfl,rfl,rfl,by simp,fun j _ hj=>setRow_other w b' j _ (fun e=>hj (by rw[e]))⟩ (fun C kC=>by
           refine⟨xs.take (k * ei.size)++nv++xs.drop (k * ei.size+m * ei.size),⟨by simp;omega,.inr ⟨b',cap,_,jR,xD,setRow_heap w b' cur _ e' (0,0) hh,H2,G6,by simp;omega, ?_,pT⟩⟩,(((Ay.take _).app Wd).app (Ay.drop _)).le kC⟩
           simp only
           rw[← ht,UG];have l1:(cur.toList.take (k * ei.size)++nv).length=k * ei.size+m * ei.size:=by simp;omega
           rw[List.take_append,l1,List.take_of_length_le (by omega),List.drop_take,List.take_take,Nat.min_eq_left (by omega)])
          exact⟨_,_,qD,S',.vw s' g' 0 _ b' cap hg hb (by show k+m≤cap;omega) (fun _=>zJ rfl)⟩
      ·cases h
    | _=>simp[he] at h
 ·cases h
theorem QD (S:kJ F h0 w0 nt ρ st a w) {T ty:Nat} {x:AV} {u:Option (Nat × Nat × mV)} {xv:Value} (h:uA P st T x=some u) (hx:cS (ctx h0 w0 ρ st w) x xv) :
 ∃w',(Builtin.clear_ #[T] ty #[xv]).run P w=.ok (.tuple #[]) w'∧kJ F h0 w0 nt ρ (match u with|some p=>st.jA p.1 p.2.1 (some p.2.2)|none=>st) a w':=by
 unfold uA at h;split at h
 ·rename_i e sz by_ s g o k UI _;obtain⟨ei,ez,hT,Cw,DG,rfl,Uw,rfl,Cl⟩:=jY UI
  split at h
  ·rename_i z e' sJ n cs hz he
   split at h
   ·rename_i hc;obtain⟨rfl,rfl,aCO⟩:=hc
    simp only[Option.some.injEq] at h;subst h;obtain⟨i',zv,Dg,PU,rfl,Y2⟩:=Ai hz
    rw[Cw] at Dg
    cases Dg
    rw[DG] at PU;cases PU
    obtain⟨_,_,xs,ho,Ay⟩:=S.sF s g _ he
    cases hx with
    | vw _ _ _ _ b cap hg hb mY zJ =>
      have oC:cW (ρ s g)=some b:=hb
      rcases ho.2 with ⟨q,jR,hn⟩|⟨b',DF,cur,jR,xD,hh,H2,G6,AI,ht,pT⟩
      ·rw[jR,oE] at oC;cases oC
      ·have wO:b'=b:=by rw[jR,jE pT] at oC;simpa using oC
       subst wO;have hxl:=ho.1
       have hcsl:=Ay.len
       have hnn:n * ei.size≤DF * ei.size:=Nat.mul_le_mul_right _ H2
       have hcl':cur.toList.length=cur.size:=rfl
       have XB:(Builtin.zeroCells ez.cells k).toList=(List.range k).flatMap fun _=>ez.cells.toList:=by
        unfold Builtin.zeroCells;rw[← Iy]
       have hzl:((List.range k).flatMap fun _=>ez.cells.toList).length=k * ei.size:=by
        rw[← XB,Array.length_toList,size_zeroCells,Uw]
       have hz1':∀v∈(List.range k).flatMap fun _=>ez.cells.toList,v.oneCell'=true:=fun v hv=>by
        obtain⟨_,_,hv⟩:=List.mem_flatMap.1 hv
        exact Y2 v hv
       have sG:=run_storeCells_at P b' o e' ((List.range k).flatMap fun _=>ez.cells.toList) 0 cur w hh (by rw[hzl];omega) hz1'
       simp only[Nat.add_zero] at sG;have S':=S.store (e':=.row e' ei.size n (cs.take o++((List.range k).flatMap fun _=>ez.cells.toList.map .v)++cs.drop (o+k * ei.size))) (w':=w.setRow b' (cur.toList.take o++((List.range k).flatMap fun _=>ez.cells.toList)++cur.toList.drop (o+((List.range k).flatMap fun _=>ez.cells.toList).length)).toArray) he oC ⟨rfl,rfl,rfl,by simp,fun j _ hj=>setRow_other w b' j _ (fun e=>hj (by rw[e]))⟩ (fun C kC=>by
        refine⟨xs.take o++((List.range k).flatMap fun _=>ez.cells.toList)++xs.drop (o+k * ei.size),⟨by rw[List.length_append,List.length_append,hzl];simp;omega,.inr ⟨b',DF,_,jR,xD,setRow_heap w b' cur _ e' (0,0) hh,H2,G6,by rw[List.size_toArray,List.length_append,List.length_append,hzl];simp;omega, ?_,pT⟩⟩,(((Ay.take _).le kC).app (Kl Y2 k)).app ((Ay.drop _).le kC)⟩
        simp only
        rw[← ht,hzl];have l1:(cur.toList.take o++((List.range k).flatMap fun _=>ez.cells.toList)).length=o+k * ei.size:=by rw[List.length_append,hzl];simp;omega
        rw[List.take_append,l1,List.take_of_length_le (by omega),List.drop_take,List.take_take,Nat.min_eq_left (by omega)])
       refine⟨_, ?_,S'⟩
       have hzv:(zeroValue e').run P w=.ok ez w:=by simp[zeroValue,typeInfo,Cw,DG]
       cases k with
       | zero =>
         have e0:(cur.toList.take o++((List.range 0).flatMap fun _=>ez.cells.toList)++cur.toList.drop (o+((List.range 0).flatMap fun _=>ez.cells.toList).length)).toArray=cur:=by simp
         rw[e0,setRow_self w b' cur e' (0,0) hh];simp[Builtin.clear_,aX hT]
       | succ k =>
         have hst2:(storeCells ⟨b',o,none⟩ (Builtin.zeroCells ez.cells (k+1)).toList).run P w=.ok () (w.setRow b' (cur.toList.take o++((List.range (k+1)).flatMap fun _=>ez.cells.toList)++cur.toList.drop (o+((List.range (k+1)).flatMap fun _=>ez.cells.toList).length)).toArray):=by rw[XB];exact sG
         obtain⟨W,hW⟩:∃W,w.setRow b' (cur.toList.take o++((List.range (k+1)).flatMap fun _=>ez.cells.toList)++cur.toList.drop (o+((List.range (k+1)).flatMap fun _=>ez.cells.toList).length)).toArray=W:=⟨_,rfl⟩
         rw[hW] at hst2;rw[hW];simp[Builtin.clear_,aX hT,hzv,hst2]
   ·cases h
  ·cases h
 ·rename_i t cs UI _;simp only[Option.some.injEq] at h;subst h;obtain⟨e,sz,by_⟩:=t
  obtain⟨ei,ez,hT,_⟩:=jY UI
  refine⟨w, ?_,S⟩
  cases hx with
  | IB n cap p mY=>cases p<;>simp[Builtin.clear_,aX hT]
  | sl n cs b off cap arr T fr mY hb hle hr h1=>simp[Builtin.clear_,aX hT]
 ·rename_i t UI _;simp only[Option.some.injEq] at h;subst h;obtain⟨e,sz,by_⟩:=t
  obtain⟨ei,ez,hT,_⟩:=jY UI
  have:=iH hx
  subst this;exact⟨w,by simp[Builtin.clear_,aX hT],S⟩
 ·cases h
theorem XC {C:Ctx} {x:AV} {v:Value} {g:Nat} {oY:List AV} (h:HY x=some (g,oY)) (hr:cS C x v):∃cv,v=.func (.func g) #[] cv∧lE C oY cv.toList:=by
 unfold HY at h;split at h
 ·split at h
  ·rename_i hc;obtain⟨rfl,rfl⟩:=hc
   simp only[Option.some.injEq,Prod.mk.injEq] at h;obtain⟨rfl,rfl⟩:=h
   have:=iH hr
   subst this;exact⟨#[],rfl,.nil C⟩
  ·cases h
 ·simp only[Option.some.injEq,Prod.mk.injEq] at h;obtain⟨rfl,rfl⟩:=h
  cases hr with
  | Da f cs a hl hr=>exact⟨a,rfl,by simpa using hl,fun i x y hx hy=>hr i x y hx (by simpa using hy)⟩
 ·cases h
variable [Ext]
theorem DV (S:kJ F h0 w0 nt ρ st a w) {call:Nat→List AV→Option AV} (iX:pJ P call) {o:Oper} {c:Call} (qH:o.op=.call c) {e:qE}
 (h:gZ P call c o.dst st=some e) (hd:∀d,o.dst=some d→d<nt)
 (hK:∀nY a' w',kJ F h0 w0 nt nY (e.apply st) a' w'→K a' w'):o.wp P a w K Q:=by
 have vE:lE (ctx h0 w0 ρ st w) (c.args.toList.map st.ev) (c.args.toList.map a.eval):=lE.map _ _ _ fun p _=>S.ev p
 unfold gZ at h;split at h
 ·rename_i f hf;have fin:∀g cv,a.eval f=.func (.func g) #[] cv→(xU P g∧Calls P g (c.args.map a.eval++cv) w fun en w'=>∃v,en=.returned v∧K (a.put o.dst v) w')→o.wp P a w K Q:=by
   rintro g cv hv ⟨⟨fn,aGw,Z3,Z4⟩,XD⟩
   have hnb:fn.body.isNone=false:=by
    cases hb:fn.body<;>simp[hb] at Z4 ⊢
   have Sj : ¬ fn.name = "runtime.NumGoroutine" := by simpa using Z3
   have hn2:¬fn.body=none:=by intro h;simp[h] at hnb
   have qD:(execOp a.eval o).run P w=.ok (.enter g (c.args.map a.eval++cv)) w:=by
    simp[execOp,qH,resolve,hf,hv,Deferred.ofValue,invoke,callFunc,aGw,Sj,hn2]
   unfold Oper.wp;rw[qD,Oper.upon_enter];refine XD.mono ?_
   rintro en w' ⟨v,rfl,hk⟩
   exact hk
  have gen:∀g oY,HY (st.ev f)=some (g,oY)→aM call g (c.args.toList.map st.ev++oY) st o.dst=some e→o.wp P a w K Q:=by
   intro g oY hfn h;obtain⟨cv,hv,hcaps⟩:=XC hfn (S.ev f)
   have eY:lE (ctx h0 w0 ρ st w) (c.args.toList.map st.ev++oY) (c.args.map a.eval++cv).toList:=by
    simpa using vE.app hcaps
   exact fin g cv hv (yL S iX h eY hd hK)
  unfold mX at h;split at h
  ·rename_i g;split at h
   ·refine fin g #[] rfl ?_
    exact JW S iX h (by simpa using vE) hd hK
   ·split at h
    ·refine fin g #[] rfl ?_
     exact DT S iX h (by simpa using vE) hd hK
    ·split at h
     ·refine fin g #[] rfl ?_
      exact JV S iX h (by simpa using vE) hd hK
     ·exact gen g [] rfl (by simpa using h)
  ·split at h
   ·rename_i g oY hfn;exact gen g oY hfn h
   ·cases h
 ·rename_i hf;split at h
  ·rename_i x T hx hT;cases hs:dL P T with
   | none=>simp[hs] at h
   | some t =>
     cases hv:aQ st (st.ev x) with
     | none=>simp[hs,hv] at h
     | some nc =>
       obtain⟨n,cs⟩:=nc
       simp only[hs,hv,Option.some.injEq] at h;subst h;obtain⟨p,cap,Z5,_⟩:=sX S hv (S.ev x)
       obtain⟨e,sz,by_⟩:=t
       obtain⟨ei,ez,hu,_⟩:=jY hs
       have ha:c.args=#[x]:=by apply Array.ext';simpa using hx
       have ht:c.argTypes=#[T]:=by apply Array.ext';simpa using hT
       refine upon_value (v:=.int .i64 n) ?_ (hK ρ _ w (S.put o.dst hd (.v _)))
       simp[execOp,qH,resolve,hf,ha,ht,invoke,builtin,Builtin.len_,Z5,aX hu,goInt]
  ·cases h
 ·rename_i hf;split at h
  ·rename_i x y hx;split at h
   ·rename_i k p k' q h1 h2
    simp only[Option.some.injEq] at h;subst h;have e1:=S.ev x
    rw[h1] at e1;have e1:=iH e1
    have e2:=S.ev y
    rw[h2] at e2;have e2:=iH e2
    have ha:c.args=#[x,y]:=by apply Array.ext';simpa using hx
    refine upon_value (v:=.int k (if q<p then q else p)) ?_ (hK ρ _ w (S.put o.dst hd (.v _)))
    simp[execOp,qH,resolve,hf,ha,invoke,builtin,Builtin.min_,Builtin.min2,e1,e2]
   ·cases h
  ·cases h
 ·rename_i hf;split at h
  ·rename_i x y hx;split at h
   ·rename_i k p k' q h1 h2
    simp only[Option.some.injEq] at h;subst h;have e1:=S.ev x
    rw[h1] at e1;have e1:=iH e1
    have e2:=S.ev y
    rw[h2] at e2;have e2:=iH e2
    have ha:c.args=#[x,y]:=by apply Array.ext';simpa using hx
    refine upon_value (v:=.int k (if q > p then q else p)) ?_ (hK ρ _ w (S.put o.dst hd (.v _)))
    simp[execOp,qH,resolve,hf,ha,invoke,builtin,Builtin.max_,Builtin.max2,e1,e2]
   ·cases h
  ·cases h
 ·rename_i hf;cases lD:o.dst with
  | none=>simp[lD,cH] at h
  | some d =>
  simp only[lD,cH] at h;split at h
  ·rename_i s x T T' hx hT
   split at h
   ·rename_i hTT;subst hTT;split at h
    ·cases nP:kS P st T (st.ev s) (st.ev x) with
     | none=>simp[nP] at h
     | some u =>
     simp only[nP,Option.map_some,Option.some.injEq] at h;subst h;obtain⟨v,w',hr,S',hv⟩:=DU (ty:=o.type) S nP (S.ev s) (S.ev x)
     have ha:c.args=#[s,x]:=by apply Array.ext';simpa using hx
     have ht:c.argTypes=#[T,T]:=by apply Array.ext';simpa using hT
     rw[lD] at hd;have hk:=hK ρ _ w' (S'.put (some d) hd hv)
     unfold Oper.wp;simp only[execOp,qH,resolve,hf,ha,ht,invoke,builtin];simp[hr]
     unfold Oper.upon;rw[lD];exact hk
    split at h
    ·rename_i hpa;obtain⟨_,hs0,UI,hv'⟩:=hpa
     obtain⟨⟨_,cs⟩,hv,hv0⟩:=Option.map_eq_some_iff.1 hv'
     simp only at hv0
     subst hv0;simp only[Option.some.injEq] at h;subst h;have e1:=S.ev s
     rw[hs0] at e1;have e1:=iH e1
     obtain⟨q,c',hxv,_⟩:=sX S hv (S.ev x)
     cases hsi:dL P T with
     | none=>rw[hsi] at UI;cases UI
     | some t =>
     obtain⟨e,sz,by_⟩:=t
     obtain⟨ei,ez,hT',Cw,_⟩:=jY hsi
     have hz:∀w:World,(Builtin.firstCells ei.size 0 (.slice q 0 c')).run P w=.ok ([]:List Value).toArray w:=fun w=>by cases q<;>simp[Builtin.firstCells,loadCells,loadCellsFrom]
     have hr:(Builtin.append_ #[T,T] o.type #[.slice none 0 0,.slice q 0 c']).run P w=.ok (.slice none 0 0) w:=run_append_nothing w T T o.type e ei hT' Cw none 0 0 (Nat.le_refl _) _ ⟨.inl ⟨e,hT'⟩,fun w'=>by simp[Builtin.lenOf],hz _,hz _,by simp,by simp⟩
     have ha:c.args=#[s,x]:=by apply Array.ext';simpa using hx
     have ht:c.argTypes=#[T,T]:=by apply Array.ext';simpa using hT
     rw[lD] at hd;refine upon_value (v:=.slice none 0 0) ?_ (by rw[lD];exact hK ρ _ w (S.put (some d) hd (.v _)))
     simp[execOp,qH,resolve,hf,ha,ht,invoke,builtin,e1,hxv,hr]
    cases nP:cZ P st T (st.ev s) (st.ev x) with
    | none=>simp[nP] at h
    | some ur =>
      obtain⟨u,r⟩:=ur
      simp only[nP,Option.some.injEq] at h;subst h;obtain⟨v,w',nY,hr,S'⟩:=JY (ty:=o.type) S (hd d lD) nP (S.ev s) (S.ev x)
      have ha:c.args=#[s,x]:=by apply Array.ext';simpa using hx
      have ht:c.argTypes=#[T,T]:=by apply Array.ext';simpa using hT
      have hk:=hK nY _ w' S'
      unfold Oper.wp;simp only[execOp,qH,resolve,hf,ha,ht,invoke,builtin];simp[hr]
      unfold Oper.upon;rw[lD];exact hk
   ·cases h
  ·cases h
 ·rename_i hf;split at h
  ·rename_i x T hx hT;cases nP:uA P st T (st.ev x) with
   | none=>simp[nP] at h
   | some u =>
     simp only[nP,Option.map_some,Option.some.injEq] at h;subst h;obtain⟨w',hr,S'⟩:=QD (ty:=o.type) S nP (S.ev x)
     have ha:c.args=#[x]:=by apply Array.ext';simpa using hx
     have ht:c.argTypes=#[T]:=by apply Array.ext';simpa using hT
     have hk:=hK ρ (a.put o.dst (.tuple #[])) w' (by
      have:=S'.put o.dst hd (x:=.eG []) (v:=.tuple #[]) (.eG [] #[] rfl (by simp))
      cases u with
      | none=>exact this
      | some p=>exact this)
     unfold Oper.wp;simp only[execOp,qH,resolve,hf,ha,ht,invoke,builtin];simp[hr]
     unfold Oper.upon;exact hk
  ·cases h
 ·cases h
theorem Vh (S:kJ F h0 w0 nt ρ st a w) {call:Nat→List AV→Option AV} (iX:pJ P call) {o:Oper} {e:qE} (h:dG P call o st=some e) (hd:∀d,o.dst=some d→d<nt)
 (hK:∀nY a' w',kJ F h0 w0 nt nY (e.apply st) a' w'→K a' w'):o.wp P a w K Q:=by
 unfold dG at h;split at h
 ·rename_i T qH;cases lD:o.dst with
  | none=>simp[lD,cH] at h
  | some d =>
    cases hz:dW P T with
    | none=>simp[lD,hz,cH] at h
    | some z =>
      simp only[lD,hz,cH,Option.some.injEq] at h;subst h;obtain⟨i,zv,hi,PU,rfl,Y2⟩:=Ai hz
      obtain⟨nY,S'⟩:=S.newVar d (hd d lD) (zv.cells.toList.map .v) zv.cells T (fQ.vs _ _ Y2)
      refine upon_value (v:=.pointer (some ⟨w.heap.size,0,none⟩)) (w':=w.alloc (.cells zv.cells T)) ?_ (by rw[lD];exact hK nY _ _ (by rw[lG];exact S'))
      simp only[execOp,qH,Instr.alloc];simp[Cj w hi PU,Go.newVar,Go.newRow]
 ·rename_i T x qH;cases lD:o.dst with
  | none=>simp[lD,cH] at h
  | some d =>
    simp only[lD,cH] at h;split at h
    ·rename_i sG;simp only[Option.some.injEq] at h;subst h;obtain⟨nY,S'⟩:=S.newVar d (hd d lD) (st.ev x).cells (a.eval x).cells T ((S.ev x).cells sG)
     refine upon_value (v:=.pointer (some ⟨w.heap.size,0,none⟩)) (w':=w.alloc (.cells (a.eval x).cells T)) ?_ (by rw[lD];exact hK nY _ _ (by rw[lG];exact S'))
     simp only[execOp,qH,Instr.box];simp[Go.newVar,Go.newRow]
    ·cases h
 ·rename_i T n parts qH;cases lD:o.dst with
  | none=>simp[lD,cH] at h
  | some d =>
    cases hs:dL P T with
    | none=>simp[lD,hs,cH] at h
    | some t =>
      obtain⟨e',sz,by_⟩:=t
      cases hz:dW P e' with
      | none=>simp[lD,hs,hz,cH] at h
      | some z =>
        simp only[lD,hs,hz,cH] at h;split at h
        ·rename_i hc;obtain⟨c1,c2,c3⟩:=hc
         cases hf:gR (fun i=>some (i * sz,sz)) ((List.range n).flatMap fun _=>z.map .v) (parts.toList.map fun p=>(p.1,st.ev p.2)) with
         | none=>simp[hf] at h
         | some cs =>
           simp only[hf,Option.some.injEq] at h;subst h;obtain⟨v,w',xs,hr,hg,ho,oA⟩:=Tm S hs hz c1 c2 c3 hf
           obtain⟨nY,S'⟩:=S.newRow d (hd d lD) hg e' sz n cs xs v ho oA
           refine upon_value (v:=v) (w':=w') ?_ (by rw[lD];exact hK nY _ _ (by rw[lG];exact S'))
           simp only[execOp,qH];rw[dH hr];rfl
        ·cases h
 ·rename_i T l c qH;cases lD:o.dst with
  | none=>simp[lD,cH] at h
  | some d =>
    cases hs:dL P T with
    | none=>simp[lD,hs,cH] at h
    | some t =>
      obtain⟨e',sz,by_⟩:=t
      cases hz:dW P e' with
      | none=>simp[lD,hs,hz,cH] at h
      | some z =>
        simp only[lD,hs,hz,cH] at h;split at h
        ·rename_i n m hl hc;split at h
         ·rename_i Y1;obtain⟨c1,rfl,c3,c4⟩:=Y1
          simp only[Option.some.injEq] at h;subst h;obtain⟨k,rfl⟩:∃k:Nat,n=k:=⟨n.toNat,by omega⟩
          obtain⟨v,w',xs,hr,hg,ho,oA⟩:=Wf (w:=w) (ctx h0 w0 ρ st w) hs hz (n:=k) (by
           have:((k * by_:Nat):Int)≤140737488355328:=by rw[Int.natCast_mul];exact c3
           omega) (by omega)
          obtain⟨nY,S'⟩:=S.newRow d (hd d lD) hg e' sz k _ xs v ho oA
          simp only[Int.toNat_natCast] at hK;refine upon_value (v:=v) (w':=w') ?_ (by rw[lD];exact hK nY _ _ (by rw[lG];exact S'))
          have e1:=S.ev l
          rw[hl] at e1;have e1:=iH e1
          have e2:=S.ev c
          rw[hc] at e2;have e2:=iH e2
          simp only[execOp,qH,e1,e2];rw[dH hr];rfl
         ·cases h
        ·cases h
 ·rename_i T x y qH;cases hs:pV P st T (st.ev x) (st.ev y) with
  | none=>simp[hs] at h
  | some u =>
    obtain⟨s,g,e'⟩:=u
    simp only[hs,Option.map_some,Option.some.injEq] at h;subst h;obtain⟨w',hr,S'⟩:=QC S hs (S.ev x) (S.ev y)
    have hk:=hK ρ _ w' (S'.put o.dst hd (.v undef))
    unfold Oper.wp;simp only[execOp,qH];rw[dH hr];exact hk
 ·rename_i T qH;cases lD:o.dst with
  | none=>simp[lD,cH] at h
  | some d =>
    simp only[lD,cH,Option.some.injEq] at h;subst h;obtain⟨S',k,oZ⟩:=S.new (World.grownBy_alloc w (.map #[] 0) none) d (.map []) (.map (some w.heap.size)) rfl (fun b hb=>by simp[cW] at hb;omega)
     (fun C k _=>⟨w.heap.size,#[],0,rfl,S.ext.size,heap_alloc_new w _,trivial⟩)
    have aY:st.aP d<(ctx h0 w0 (uC ρ d (st.aP d) (.map (some w.heap.size))) (st.new d (.map [])) (w.alloc (.map #[] 0))).aP d:=by simp[ctx,St.new]
    have jR:(ctx h0 w0 (uC ρ d (st.aP d) (.map (some w.heap.size))) (st.new d (.map [])) (w.alloc (.map #[] 0))).ρ d (st.aP d)=.map (some w.heap.size):=oZ
    have:=cS.mp (C:=ctx h0 w0 (uC ρ d (st.aP d) (.map (some w.heap.size))) (st.new d (.map [])) (w.alloc (.map #[] 0))) d (st.aP d) aY (by rw[jR];rfl)
    rw[jR] at this;have hS:=S'.put (some d) (fun t ht=>by cases ht;exact hd d lD) this
    refine upon_value (v:=.map (some w.heap.size)) (w':=w.alloc (.map #[] 0)) ?_ (by rw[lD];exact hK _ _ _ (by rw[lG];exact hS))
    simp only[execOp,qH,Option.map_none];rfl
 ·rename_i T m x y qH;cases hs:tZ P st T (st.ev m) (st.ev x) (st.ev y) with
  | none=>simp[hs] at h
  | some u =>
    obtain⟨s,g,e'⟩:=u
    simp only[hs,Option.map_some,Option.some.injEq] at h;subst h;obtain⟨w',hr,S'⟩:=JS S hs (S.ev m) (S.ev x) (S.ev y)
    have hk:=hK ρ _ w' (S'.put o.dst hd (.v undef))
    unfold Oper.wp;simp only[execOp,qH];rw[dH hr];exact hk
 ·rename_i c qH;exact DV S iX qH h hd hK
 ·cases hv:iT P st o.op with
  | none=>simp[hv] at h
  | some x =>
    simp only[hv,Option.map_some,Option.some.injEq] at h;subst h;obtain⟨v,hr,eY⟩:=PX S hv
    exact upon_value hr (hK ρ _ w (S.put o.dst hd eY))
end
end Go.Ab
end
section
namespace Go.Ab
open Classical
def mH (aP:Nat→Nat) (x:AV):Prop:=∃(C:Ctx) (v:Value),C.aP=aP∧cS C x v
theorem mH.ptr {aP:Nat→Nat} {s g o:Nat} (h:mH aP (.ptr s g o)):g<aP s:=by
 obtain⟨C,v,rfl,h⟩:=h
 cases h with
 | ptr s g off b hg hb=>exact hg
theorem mH.own {aP:Nat→Nat} {s g:Nat} (h:mH aP (.own s g)):g<aP s:=by
 obtain⟨C,v,rfl,h⟩:=h
 cases h with
 | own s g hg _=>exact hg
theorem mH.vw {aP:Nat→Nat} {s g o n:Nat} (h:mH aP (.vw s g o n)):g<aP s:=by
 obtain⟨C,v,rfl,h⟩:=h
 cases h with
 | vw s g o n b cap hg _ _ _=>exact hg
theorem mH.mp {aP:Nat→Nat} {s g:Nat} (h:mH aP (.mp s g)):g<aP s:=by
 obtain⟨C,v,rfl,h⟩:=h
 cases h with
 | mp s g hg _=>exact hg
theorem mH.agg {aP:Nat→Nat} {cs:List AV} (h:mH aP (.agg cs)):∀c∈cs,mH aP c:=by
 obtain⟨C,v,rfl,h⟩:=h
 cases h with
 | agg cs a hl hr _ =>
   intro c hc;obtain⟨i,hi,rfl⟩:=List.getElem_of_mem hc
   exact⟨C,a[i],rfl,hr i _ _ (by simp[hi]) (by simp)⟩
theorem mH.Da {aP:Nat→Nat} {f:Nat} {cs:List AV} (h:mH aP (.Da f cs)):∀c∈cs,mH aP c:=by
 obtain⟨C,v,rfl,h⟩:=h
 cases h with
 | Da f cs a hl hr =>
   intro c hc;obtain⟨i,hi,rfl⟩:=List.getElem_of_mem hc
   exact⟨C,a[i]'(by omega),rfl,hr i _ _ (by simp[hi]) (by simp)⟩
section
variable {P:Program} {call:Nat→List AV→Option AV} {st st':St}
def pL (st st':St):Prop:=∀s g,g<st.aP s→st'.heap s g=st.heap s g
theorem JZ {x:AV} (hx:mH st.aP x) (hh:pL st st'):qN st' x=qN st x:=by
 cases x<;>simp only[qN]
 rw[hh _ _ hx.ptr]
theorem sZ {x:AV} (hx:mH st.aP x) (hh:pL st st'):aQ st' x=aQ st x:=by
 cases x
 case own=>simp only[aQ,hh _ _ hx.own]
 case vw=>simp only[aQ,hh _ _ hx.vw]
 case v y =>
  cases y
  case slice p n c=>cases p<;>cases n<;>cases c<;>rfl
  all_goals rfl
 all_goals rfl
theorem To {T:Nat} {x i:AV} (hx:mH st.aP x) (hh:pL st st'):bD P st' T x i=bD P st T x i:=by
 unfold bD;cases x<;>try rfl
 simp only[hh _ _ hx.own]
theorem AO {T:Nat} {x:AV} {lo hi:Option Operand} (hx:∀s g,((∃o,x=.ptr s g o)∨x=.own s g∨∃o n,x=.vw s g o n)→st'.heap s g=st.heap s g) (hl:∀p,lo=some p→st'.ev p=st.ev p) (Dg:∀p,hi=some p→st'.ev p=st.ev p):cX P st' T x lo hi=cX P st T x lo hi:=by
 unfold cX;cases dL P T with
 | none =>
   simp only
   cases jL P T with
   | none=>rfl
   | some na =>
     cases x<;>try rfl
     rename_i s g o;cases lo<;>cases hi<;>try rfl
     simp only[hx s g (.inl ⟨o,rfl⟩)]
 | some t =>
   simp only
   cases x<;>try rfl
   case v y =>
    cases y<;>try rfl
    rename_i p n c;cases p<;>cases n<;>cases c<;>try rfl
    cases lo with
    | none=>cases hi with
      | none=>rfl
      | some h=>simp only[Dg h rfl]
    | some l=>cases hi with
      | none=>simp only[hl l rfl]
      | some h=>simp only[hl l rfl,Dg h rfl]
   case sl n cs =>
    cases lo with
    | none=>cases hi with
      | none=>rfl
      | some h=>simp only[Dg h rfl]
    | some l=>cases hi with
      | none=>simp only[hl l rfl]
      | some h=>simp only[hl l rfl,Dg h rfl]
   case own s g =>
    simp only[hx s g (.inr (.inl rfl))];cases lo with
    | none=>cases hi with
      | none=>rfl
      | some h=>simp only[Dg h rfl]
    | some l=>cases hi with
      | none=>simp only[hl l rfl]
      | some h=>simp only[hl l rfl,Dg h rfl]
   case vw s g o n =>
    cases o with
    | succ o=>rfl
    | zero =>
      simp only[hx s g (.inr (.inr ⟨_,_,rfl⟩))];cases st.heap s g with
      | none=>rfl
      | some e=>cases e with
        | row e' sJ n' Ff =>
          cases lo with
          | none=>cases hi<;>rfl
          | some l=>cases hi with
            | none=>rfl
            | some h=>simp only[hl l rfl,Dg h rfl]
        | _=>rfl
theorem KA {T:Nat} {x:AV} {lo hi:Option Operand} (hx:mH st.aP x) (hh:pL st st') (hl:∀p,lo=some p→st'.ev p=st.ev p) (Dg:∀p,hi=some p→st'.ev p=st.ev p):cX P st' T x lo hi=cX P st T x lo hi :=
 AO (fun s g h=>by
  rcases h with ⟨o,rfl⟩|rfl|⟨o,n,rfl⟩
  ·exact hh _ _ hx.ptr
  ·exact hh _ _ hx.own
  ·exact hh _ _ hx.vw) hl Dg
def AP (st:St):Prop:=∀s g cs,st.heap s g=some (.cells cs)→∀c∈cs,mH st.aP c
theorem QE {x:AV} (hx:mH st.aP x) (hh:pL st st'):xW st' x=xW st x:=by
 unfold xW;cases x<;>try rfl
 ·simp only[hh _ _ hx.own]
 ·simp only[hh _ _ hx.vw]
theorem Iz (hp:AP st) {x:AV} (hx:mH st.aP x) (hh:pL st st'):cF st' x=cF st x:=by
 unfold cF;cases x<;>try rfl
 ·rename_i s g o;simp only[hh _ _ hx.ptr];cases he:st.heap s g with
  | none=>rfl
  | some e =>
    cases e with
    | cells cs =>
      have:cs.map (xW st')=cs.map (xW st):=List.map_congr_left fun c hc=>QE (hp s g cs he c hc) hh
      simp only[this]
    | _=>rfl
 ·simp only[hh _ _ hx.own]
 ·simp only[hh _ _ hx.vw]
theorem AQ (hp:AP st) {x:AV} (hx:mH st.aP x) (hh:pL st st'):fG st' x=fG st x:=by
 unfold fG;cases x<;>try (simp only[Iz hp hx hh];done)
 ·rename_i cs;have:cs.map (cF st')=cs.map (cF st):=List.map_congr_left fun c hc=>Iz hp (hx.agg c hc) hh
  simp only[this]
 ·rename_i f cs;have:cs.map (cF st')=cs.map (cF st):=List.map_congr_left fun c hc=>Iz hp (hx.Da c hc) hh
  simp only[this]
theorem KB {T:Nat} {x y:AV} (hx:mH st.aP x) (hh:pL st st'):pV P st' T x y=pV P st T x y:=by
 unfold pV;cases x<;>try rfl
 simp only[hh _ _ hx.ptr]
theorem DW {T:Nat} {s x:AV} (hs:mH st.aP s) (hx:mH st.aP x) (hh:pL st st'):cZ P st' T s x=cZ P st T s x:=by
 unfold cZ;simp only[sZ hx hh];cases s
 case own=>simp only[hh _ _ hs.own]
 case v y =>
  cases y
  case slice p n c=>cases p<;>cases n<;>cases c<;>rfl
  all_goals rfl
 all_goals rfl
theorem DX {T:Nat} {s x:AV} (hs:mH st.aP s) (hx:mH st.aP x) (hh:pL st st'):kS P st' T s x=kS P st T s x:=by
 unfold kS;rw[sZ hx hh];cases dL P T with
 | none=>rfl
 | some t=>cases aQ st x with
   | none=>rfl
   | some mn =>
     cases s<;>try rfl
     case vw s g o n =>
      cases o with
      | zero=>simp only[hh _ _ hs.vw]
      | succ o=>rfl
theorem KC {T:Nat} {x:AV} (hx:mH st.aP x) (hh:pL st st'):uA P st' T x=uA P st T x:=by
 unfold uA;cases dL P T with
 | none=>rfl
 | some t =>
   cases x<;>try rfl
   case vw s g o n=>simp only[hh _ _ hx.vw]
   case v y =>
    cases y<;>try rfl
    rename_i p n c;cases p<;>cases n<;>cases c<;>rfl
   case sl n cs=>cases n<;>rfl
theorem Vi {T:Nat} {x:AV} {lo:Option Operand} {hi mx:Operand} (hx:∀s g,x=.own s g→st'.heap s g=st.heap s g) (hl:∀p,lo=some p→st'.ev p=st.ev p) (h1:st'.ev hi=st.ev hi) (h2:st'.ev mx=st.ev mx):wM P st' T x lo hi mx=wM P st T x lo hi mx:=by
 unfold wM;rw[h1,h2];cases dL P T with
 | none=>rfl
 | some t =>
   simp only
   cases lo with
   | none =>
     simp only
     cases x<;>try rfl
     case own s g=>simp only[hx s g rfl]
     case v y =>
      cases y<;>try rfl
      rename_i p n c;cases p<;>cases n<;>cases c<;>rfl
   | some l =>
     simp only[hl l rfl];cases x<;>try rfl
     case own s g=>simp only[hx s g rfl]
     case v y =>
      cases y<;>try rfl
      rename_i p n c;cases p<;>cases n<;>cases c<;>rfl
theorem QF {T:Nat} {m x:AV} {ok:Bool} (hm:mH st.aP m) (hh:pL st st'):Us P st' T m x ok=Us P st T m x ok:=by
 unfold Us;cases m<;>try rfl
 simp only[hh _ _ hm.mp]
theorem DY {T:Nat} {m x y:AV} (hm:mH st.aP m) (hh:pL st st'):tZ P st' T m x y=tZ P st T m x y:=by
 unfold tZ;cases m<;>try rfl
 simp only[hh _ _ hm.mp]
theorem KD {r:AV} {dst:Option Nat} (hc:∀d,dst=some d→st'.aP d=st.aP d):iU r st' dst=iU r st dst:=by
 unfold iU;cases dst with
 | none=>rfl
 | some d=>simp only[hc d rfl]
theorem uN (hp:AP st) {g:Nat} {args:List AV} {dst:Option Nat} (hx:∀x∈args,mH st.aP x) (hh:pL st st') (hc:∀d,dst=some d→st'.aP d=st.aP d):aM call g args st' dst=aM call g args st dst:=by
 unfold aM;have:args.map (fG st')=args.map (fG st):=List.map_congr_left fun x Ke=>AQ hp (hx x Ke) hh
 rw[this];have h2:∀r,iU r st' dst=iU r st dst:=fun r=>KD hc
 simp only[h2]
theorem KE (hp:AP st) {g:Nat} {args:List AV} {dst:Option Nat} (hx:∀x∈args,mH st.aP x) (hh:pL st st') (hc:∀d,dst=some d→st'.aP d=st.aP d):lI call g args st' dst=lI call g args st dst:=by
 unfold lI;split
 ·rename_i s k rest;rw[hh _ _ (hx _ (List.mem_cons_self ..)).own];cases dst with
  | none=>rfl
  | some d=>simp only[hc d rfl]
 ·rw[uN hp hx hh hc]
theorem DZ (hp:AP st) {g:Nat} {args:List AV} {dst:Option Nat} (hx:∀x∈args,mH st.aP x) (hh:pL st st') (hc:∀d,dst=some d→st'.aP d=st.aP d):eI call g args st' dst=eI call g args st dst:=by
 have h1:=uN (call:=call) (g:=g) hp hx hh hc
 have:args.map (fG st')=args.map (fG st):=List.map_congr_left fun x Ke=>AQ hp (hx x Ke) hh
 unfold eI;rw[this,h1];have h2:∀r s k,Fl r st' dst s k=Fl r st dst s k:=fun r s k=>by
  unfold Fl;cases dst with
  | none=>cases r<;>rfl
  | some d=>cases r<;>simp only[hc d rfl]
 simp only[h2]
theorem KF (hp:AP st) {g:Nat} {args:List AV} {dst:Option Nat} (hx:∀x∈args,mH st.aP x) (hh:pL st st') (hc:∀d,dst=some d→st'.aP d=st.aP d):nK call g args st' dst=nK call g args st dst:=by
 unfold nK;split
 ·rename_i x s k;rw[hh _ _ (hx (.own s k) (by simp)).own]
 ·rw[uN hp hx hh hc]
theorem Qv {parts:List (Nat × Operand)} (h:∀p∈parts,st'.ev p.2=st.ev p.2):(parts.map fun p=>(p.1,st'.ev p.2))=parts.map fun p=>(p.1,st.ev p.2) :=
 List.map_congr_left fun p hp=>by rw[h p hp]
theorem Xl {parts:List (Nat × Operand)} (h:∀p∈parts,st'.ev p.2=st.ev p.2):(parts.all fun p=>(st'.ev p.2).jQ)=parts.all fun p=>(st.ev p.2).jQ:=by
 induction parts with
 | nil=>rfl
 | cons p ps ih =>
   simp only[List.all_cons];rw[h p (by simp),ih fun q hq=>h q (by simp[hq])]
theorem H3 {aP:Nat→Nat} {x:AV} {g:Nat} {oY:List AV} (h:HY x=some (g,oY)) (hx:mH aP x):∀c∈oY,mH aP c:=by
 unfold HY at h;split at h
 ·split at h
  ·simp only[Option.some.injEq,Prod.mk.injEq] at h;obtain⟨rfl,rfl⟩:=h
   simp
  ·cases h
 ·simp only[Option.some.injEq,Prod.mk.injEq] at h;obtain⟨rfl,rfl⟩:=h
  exact hx.Da
 ·cases h
variable [Ext]
theorem EA (hp:AP st) {c:Call} {dst:Option Nat} (he:∀p∈c.operands,st'.ev p=st.ev p) (hi:∀p∈c.operands,mH st.aP (st.ev p)) (hh:pL st st') (hc:∀d,dst=some d→st'.aP d=st.aP d) :
 gZ P call c dst st'=gZ P call c dst st:=by
 have vE:∀p∈c.args.toList,p∈c.operands:=fun p hp=>by simp[Call.operands];right;simpa using hp
 unfold gZ;split
 ·rename_i f hf;have hfo:f∈c.operands:=by simp[Call.operands,hf]
  have hm:c.args.toList.map st'.ev=c.args.toList.map st.ev:=List.map_congr_left fun p hp=>he p (vE p hp)
  have hia:∀x∈c.args.toList.map st.ev,mH st.aP x:=fun x hx=>by
   obtain⟨p,hp,rfl⟩:=List.mem_map.1 hx
   exact hi p (vE p hp)
  unfold mX;rw[hm];split
  ·split
   ·exact KE hp hia hh hc
   ·split
    ·exact DZ hp hia hh hc
    ·split
     ·exact KF hp hia hh hc
     ·exact uN hp hia hh hc
  ·rw[he f hfo];cases h:HY (st.ev f) with
   | none=>rfl
   | some gc =>
     obtain⟨g,oY⟩:=gc
     refine uN hp (fun x hx=>?_) hh hc
     rcases List.mem_append.1 hx with hx|hx
     ·exact hia x hx
     ·exact H3 h (hi f hfo) x hx
 ·split
  ·rename_i x T hx hT;have Z6:=vE x (by rw[hx];simp)
   rw[he x Z6,sZ (hi x Z6) hh]
  ·rfl
 ·split
  ·rename_i x y hx;rw[he x (vE x (by rw[hx];simp)),he y (vE y (by rw[hx];simp))]
  ·rfl
 ·split
  ·rename_i x y hx;rw[he x (vE x (by rw[hx];simp)),he y (vE y (by rw[hx];simp))]
  ·rfl
 ·cases dst with
  | none=>rfl
  | some d =>
  simp only[cH];split
  ·rename_i s x T T' hx hT
   have hso:=vE s (by rw[hx];simp)
   have Z6:=vE x (by rw[hx];simp)
   have hn:Hw P st' T (st'.ev s) (st'.ev x)=Hw P st T (st.ev s) (st.ev x):=by simp only[Hw,he s hso,he x Z6,sZ (hi x Z6) hh]
   rw[hn,he s hso,he x Z6,DW (hi s hso) (hi x Z6) hh,DX (hi s hso) (hi x Z6) hh,hc d rfl]
  ·rfl
 ·split
  ·rename_i x T hx hT;have Z6:=vE x (by rw[hx];simp)
   rw[he x Z6,KC (hi x Z6) hh]
  ·rfl
 ·rfl
theorem QG (hp:AP st) {o:Oper} (he:∀p∈o.op.operands,st'.ev p=st.ev p) (hi:∀p∈o.op.operands,mH st.aP (st.ev p)) (hh:pL st st') (hc:∀d,o.dst=some d→st'.aP d=st.aP d) :
 dG P call o st'=dG P call o st:=by
 obtain⟨dst,op,type,pos,after,guard⟩:=o
 cases op<;>simp only[dG,iT,Op.operands] at *
 case call c=>exact EA hp he hi hh hc
 case alloc T=>cases dst with
  | none=>rfl
  | some d=>simp only[cH,hc d rfl]
 case box T x=>cases dst with
  | none=>rfl
  | some d=>simp only[cH,hc d rfl,he x (by simp)]
 case buildSlice T n parts =>
  have yP:∀p∈parts.toList,st'.ev p.2=st.ev p.2:=fun p hp=>he p.2 (by simp;exact⟨p.1,by simpa using hp⟩)
  rw[Qv yP,Xl yP];cases dst with
  | none=>rfl
  | some d=>simp only[cH,hc d rfl]
 case makeSlice T l c =>
  rw[he l (by simp),he c (by simp)]
  cases dst with
  | none=>rfl
  | some d=>simp only[cH,hc d rfl]
 case makeMap T r =>
  cases r with
  | none=>cases dst with
    | none=>rfl
    | some d=>simp only[cH,hc d rfl]
  | some r=>rfl
 case mapUpdate T m x y=>rw[he m (by simp),he x (by simp),he y (by simp),DY (hi m (by simp)) hh]
 case lookup T m x ok=>rw[he m (by simp),he x (by simp),QF (hi m (by simp)) hh]
 case store T x y=>rw[he x (by simp),he y (by simp),KB (hi x (by simp)) hh]
 case move x=>rw[he x (by simp)]
 case assign x=>rw[he x (by simp)]
 case pick c x y=>rw[he c (by simp),he x (by simp),he y (by simp)]
 case binOp op T x y yT=>rw[he x (by simp),he y (by simp)]
 case unOp op T x=>rw[he x (by simp)]
 case convert s d x=>rw[he x (by simp)]
 case nilCheck x=>rw[he x (by simp)]
 case field T x f=>rw[he x (by simp)]
 case fieldAddr T x f=>rw[he x (by simp)]
 case indexAddr T x i=>rw[he x (by simp),he i (by simp),To (hi x (by simp)) hh]
 case load T x=>rw[he x (by simp),JZ (hi x (by simp)) hh]
 case extract t i=>rw[he t (by simp)]
 case build T parts =>
  have yP:∀p∈parts.toList,st'.ev p.2=st.ev p.2:=fun p hp=>he p.2 (by simp;exact⟨p.1,by simpa using hp⟩)
  unfold iS;rw[Qv yP,Xl yP]
 case slice T x lo Dg mx =>
  cases mx with
  | some m =>
    cases Dg with
    | none=>rfl
    | some h =>
      simp only
      rw[he x (by simp),Vi (fun s g hx=>by have:=hi x (by simp);rw[hx] at this;exact hh _ _ this.own) (fun p hp=>he p (by simp[hp])) (he h (by simp)) (he m (by simp))]
  | none =>
    simp only
    rw[he x (by simp),KA (hi x (by simp)) hh (fun p hp=>he p (by simp[hp])) (fun p hp=>he p (by simp[hp]))]
 case makeFunc fn first captured =>
  cases fn with
  | func f =>
    simp only
    have:captured.toList.map st'.ev=captured.toList.map st.ev:=List.map_congr_left fun p hp=>he p (by simp;right;simpa using hp)
    rw[this]
  | _=>rfl
theorem KG {ops:Array Oper} {o:Oper} (Ay:mO ops o=0∨mO ops o=2) (he:∀p∈o.op.operands,st'.ev p=st.ev p) (hc:∀d,o.dst=some d→st'.aP d=st.aP d) :
 dG P call o st'=dG P call o st:=by
 obtain⟨dst,op,type,pos,after,guard⟩:=o
 cases op<;>simp only[dG,iT,Op.operands,mO] at *
 case call c =>
  exfalso
  obtain⟨callee,args,rZ⟩:=c
  cases callee with
  | builtin b=>cases b<;>simp at Ay;split at Ay<;>simp at Ay
  | value f=>cases f<;>simp at Ay;split at Ay<;>(try split at Ay)<;>(try split at Ay)<;>simp at Ay
  | _=>simp at Ay
 case alloc T=>cases dst with
  | none=>rfl
  | some d=>simp only[cH,hc d rfl]
 case box T x=>cases dst with
  | none=>rfl
  | some d=>simp only[cH,hc d rfl,he x (by simp)]
 case buildSlice T n parts =>
  have yP:∀p∈parts.toList,st'.ev p.2=st.ev p.2:=fun p hp=>he p.2 (by simp;exact⟨p.1,by simpa using hp⟩)
  rw[Qv yP,Xl yP];cases dst with
  | none=>rfl
  | some d=>simp only[cH,hc d rfl]
 case makeSlice T l c =>
  rw[he l (by simp),he c (by simp)]
  cases dst with
  | none=>rfl
  | some d=>simp only[cH,hc d rfl]
 case makeMap T r =>
  cases r with
  | none=>cases dst with
    | none=>rfl
    | some d=>simp only[cH,hc d rfl]
  | some r=>rfl
 case mapUpdate T m x y=>simp at Ay
 case lookup T m x ok=>simp at Ay
 case store T x y=>simp at Ay
 case move x=>rw[he x (by simp)]
 case assign x=>rw[he x (by simp)]
 case pick c x y=>rw[he c (by simp),he x (by simp),he y (by simp)]
 case binOp op T x y yT=>rw[he x (by simp),he y (by simp)]
 case unOp op T x=>rw[he x (by simp)]
 case convert s d x=>rw[he x (by simp)]
 case nilCheck x=>rw[he x (by simp)]
 case field T x f=>rw[he x (by simp)]
 case fieldAddr T x f=>rw[he x (by simp)]
 case indexAddr T x i=>simp at Ay
 case load T x=>simp at Ay
 case extract t i=>rw[he t (by simp)]
 case build T parts =>
  have yP:∀p∈parts.toList,st'.ev p.2=st.ev p.2:=fun p hp=>he p.2 (by simp;exact⟨p.1,by simpa using hp⟩)
  unfold iS;rw[Qv yP,Xl yP]
 case slice T x lo Dg mx=>simp at Ay
 case makeFunc fn first captured =>
  cases fn with
  | func f =>
    simp only
    have:captured.toList.map st'.ev=captured.toList.map st.ev:=List.map_congr_left fun p hp=>he p (by simp;right;simpa using hp)
    rw[this]
  | _=>rfl
end
end Go.Ab
end
section
namespace Go.Ab
open Classical
section
variable {P:Program} {call:Nat→List AV→Option AV} {st st':St} {ops:Array Oper}
theorem Qw {r:AV} {dst:Option Nat} {e:qE} (h:iU r st dst=some e):e.dst=dst∧e.dJ=none∧∀d x,e.new=some (d,x)→dst=some d:=by
 unfold iU at h;split at h
 ·simp only[Option.some.injEq] at h;subst h;exact⟨rfl,rfl,fun d x h=>by simp at h⟩
 ·cases dst with
  | none=>cases h
  | some d=>simp only[Option.some.injEq] at h;subst h;exact⟨rfl,rfl,fun d x h=>by simp at h;rw[h.1]⟩
theorem uO {g:Nat} {args:List AV} {dst:Option Nat} {e:qE} (h:aM call g args st dst=some e):e.dst=dst∧e.dJ=none∧∀d x,e.new=some (d,x)→dst=some d:=by
 unfold aM at h;split at h
 ·cases hc:call g args with
  | none=>simp[hc,cH] at h
  | some r=>simp only[hc,cH] at h;exact Qw h
 ·split at h
  ·rename_i xs _;cases hc:call g xs with
   | none=>simp[hc,cH] at h
   | some r =>
     simp only[hc,cH] at h;split at h
     ·exact Qw h
     ·cases h
  ·cases h
theorem Qx {g:Nat} {args:List AV} {dst:Option Nat} {e:qE} (h:lI call g args st dst=some e):e.dst=dst∧(∀d x,e.new=some (d,x)→dst=some d)∧∀s k x,e.dJ=some (s,k,x)→args.head? = some (.own s k):=by
 unfold lI at h;split at h
 ·split at h
  ·split at h
   ·split at h
    ·cases dst with
     | none=>cases h
     | some d =>
       simp only[Option.some.injEq] at h;subst h;exact⟨rfl,fun d x h=>by simp at h;rw[h.1],fun s k x h=>by simp at h;simp[h.1,h.2.1]⟩
    ·simp only[Option.some.injEq] at h;subst h;exact⟨rfl,fun d x h=>by simp at h,fun s k x h=>by simp at h;simp[h.1,h.2.1]⟩
    ·cases h
   ·cases h
  ·cases h
 ·split at h
  ·obtain⟨h1,h2,h3⟩:=uO h
   exact⟨h1,h3,fun s k x h=>by rw[h2] at h;cases h⟩
  ·cases h
theorem KH {g:Nat} {args:List AV} {dst:Option Nat} {e:qE} (h:nK call g args st dst=some e):e.dst=dst∧e.dJ=none∧∀d x,e.new=some (d,x)→dst=some d:=by
 unfold nK at h;split at h
 ·split at h
  ·split at h
   ·split at h
    ·split at h
     ·simp only[Option.some.injEq] at h;subst h;exact⟨rfl,rfl,fun d x h=>by simp at h⟩
     ·cases h
    ·cases h
   ·cases h
  ·cases h
 ·split at h
  ·exact uO h
  ·cases h
theorem EB {g:Nat} {args:List AV} {dst:Option Nat} {e:qE} (h:eI call g args st dst=some e):e.dst=dst∧(∀d x,e.new=some (d,x)→dst=some d)∧∀s k x,e.dJ=some (s,k,x)→∃y∈args,y=.own s k∨∃cs,y=.agg cs∧.own s k∈cs:=by
 unfold eI at h;split at h
 ·rename_i s k hk;split at h
  ·split at h
   ·rename_i xs _;cases hc:call g xs with
    | none=>simp[hc,cH] at h
    | some r =>
      simp only[hc,cH] at h;have hu:e.dJ=some (s,k,none)∧e.dst=dst∧∀d x,e.new=some (d,x)→dst=some d:=by
       rcases Qu h with ⟨_,rfl⟩|⟨_,e1,sz,n,cs,d,rfl,rfl,_,rfl⟩
       ·exact⟨rfl,rfl,fun d x h=>by simp at h⟩
       ·exact⟨rfl,rfl,fun d x h=>by simp at h;rw[h.1]⟩
      ·refine⟨hu.2.1,hu.2.2,fun s' k' x h=>?_⟩
       rw[hu.1] at h;simp only[Option.some.injEq,Prod.mk.injEq] at h;obtain⟨rfl,rfl,_⟩:=h
       have hm:(s,k)∈args.flatMap jD:=by rw[hk];simp
       obtain⟨y,hy,hyk⟩:=List.mem_flatMap.1 hm
       refine⟨y,hy, ?_⟩
       have key:∀c,(s,k)∈gI c→c=.own s k:=fun c hc=>by
        cases c<;>simp[gI] at hc
        obtain⟨rfl,rfl⟩:=hc
        rfl
       cases y with
       | agg cs =>
         obtain⟨c,hc,hck⟩:=List.mem_flatMap.1 (show (s,k)∈cs.flatMap gI from hyk)
         exact .inr ⟨cs,rfl,by rw[← key c hck];exact hc⟩
       | own a b=>exact .inl (key _ hyk)
       | _=>simp[jD,gI] at hyk
   ·cases h
  ·cases h
 ·obtain⟨h1,h2,h3⟩:=uO h
  exact⟨h1,h3,fun s k x h=>by rw[h2] at h;cases h⟩
theorem oO (e:qE) (t:Nat):(e.apply st).env t=if e.dst=some t then e.val else st.env t:=by
 have h2:∀(s1:St),(s1.put e.dst e.val).env t=if e.dst=some t then e.val else s1.env t:=fun s1=>by
  cases hd:e.dst with
  | none=>simp[St.put]
  | some d =>
    simp only[St.put,Option.some.injEq];by_cases h:t=d
    ·subst h;simp
    ·rw[if_neg h,if_neg (fun h'=>h h'.symm)]
 unfold qE.apply;rw[h2];cases e.dJ<;>cases e.new<;>rfl
theorem lH (e:qE) (s:Nat):(e.apply st).aP s=match e.new with
 | some (d,es)=>if s=d then st.aP d+es.length else st.aP s
 | none=>st.aP s:=by
 unfold qE.apply;rw[ZN];cases e.dJ<;>cases e.new<;>rfl
theorem tJ (e:qE) (s g:Nat):(e.apply st).heap s g=match e.new with
 | some (d,es)=>if s=d∧st.aP d≤g∧g-st.aP d<es.length then es[g-st.aP d]? else (match e.dJ with
   | some (s0,g0,y)=>if s=s0∧g=g0 then y else st.heap s g
   | none=>st.heap s g)
 | none=>(match e.dJ with
   | some (s0,g0,y)=>if s=s0∧g=g0 then y else st.heap s g
   | none=>st.heap s g):=by
 unfold qE.apply;rw[Xx];cases e.dJ<;>cases e.new<;>rfl
theorem Z7 {o:Oper} (h:∀j want d,o.guard=some (j,want)→(ops[j]?).bind (·.dst)=some d→st'.env d=st.env d):gv ops st' o.guard=gv ops st o.guard:=by
 unfold gv;cases hg:o.guard with
 | none=>rfl
 | some jw =>
   obtain⟨j,want⟩:=jw
   simp only
   cases hd:(ops[j]?).bind (·.dst) with
   | none=>rfl
   | some d=>simp only[h j want d hg hd]
theorem Z9 {a b:St} (h1:a.env=b.env) (h2:a.heap=b.heap) (h3:a.aP=b.aP):a=b:=by
 cases a;cases b;simp_all
theorem AR {T:Nat} {p x:AV} {u:Nat × Nat × mV × Nat} (h:kS P st T p x=some u):∃n,p=.vw u.1 u.2.1 0 n:=by
 unfold kS at h;split at h
 ·split at h
  ·split at h
   ·simp only[Option.some.injEq] at h;subst h;exact⟨_,rfl⟩
   ·cases h
  ·cases h
 ·cases h
theorem H4 {T:Nat} {p:AV} {u:Nat × Nat × mV} (h:uA P st T p=some (some u)):∃o n,p=.vw u.1 u.2.1 o n:=by
 unfold uA at h;split at h
 ·split at h
  ·split at h
   ·simp only[Option.some.injEq] at h;subst h;exact⟨_,_,rfl⟩
   ·cases h
  ·cases h
 ·simp at h
 ·simp at h
 ·cases h
variable [Ext]
theorem QH {o:Oper} {e:qE} (h:dG P call o st=some e) :
 e.dst=o.dst∧(∀d x,e.new=some (d,x)→o.dst=some d)∧(∀s g x,e.dJ=some (s,g,x)→mO ops o=3∧∃p∈o.op.operands,(∃off,st.ev p=.ptr s g off)∨st.ev p=.own s g∨st.ev p=.mp s g∨(∃cs,st.ev p=.agg cs∧.own s g∈cs)∨∃o n,st.ev p=.vw s g o n):=by
 obtain⟨dst,op,type,pos,after,guard⟩:=o
 have val:∀x:Option AV,(x.map fun y=>({ dst:=dst,val:=y }:qE))=some e→e.dst=dst∧(∀d x,e.new=some (d,x)→dst=some d)∧(∀s g x,e.dJ≠some (s,g,x)):=fun x h=>by
  cases x with
  | none=>simp at h
  | some y=>simp at h;subst h;exact⟨rfl,fun d x h=>by simp at h,fun s g x h=>by simp at h⟩
 cases op
 case call c =>
  simp only[dG] at h;unfold gZ at h;split at h
  ·rename_i f hc;unfold mX at h;split at h
   ·rename_i g;split at h
    ·rename_i hmv;obtain⟨h1,h2,h3⟩:=Qx h
     refine⟨h1,h2,fun s k x hu=>?_⟩
     have hh:=h3 s k x hu
     obtain⟨callee,args,rZ⟩:=c
     simp only at hc hh
     subst hc;cases hl:args.toList with
     | nil=>rw[hl] at hh;simp at hh
     | cons p ps =>
       rw[hl] at hh;simp only[List.map_cons,List.head?_cons,Option.some.injEq] at hh;refine⟨?_,p, ?_,.inr (.inl hh)⟩
       ·simp only[mO,hl,hmv];cases p with
        | const v=>simp[St.ev] at hh
        | _=>simp
       simp only[Op.operands,Call.operands];simp
       right
       rw[← Array.mem_toList_iff,hl];simp
    ·split at h
     ·rename_i heat;obtain⟨h1,h2,h3⟩:=EB h
      refine⟨h1,h2,fun s k x hu=>?_⟩
      obtain⟨y,hy,hyo⟩:=h3 s k x hu
      obtain⟨callee,args,rZ⟩:=c
      simp only at hc hy
      subst hc;refine⟨by simp[mO,heat], ?_⟩
      obtain⟨p,hp,rfl⟩:=List.mem_map.1 hy
      refine⟨p, ?_, ?_⟩
      ·simp only[Op.operands,Call.operands];simp
       right
       simpa using hp
      ·rcases hyo with h|⟨cs,h,hm⟩
       ·exact .inr (.inl h)
       ·exact .inr (.inr (.inr (.inl ⟨cs,h,hm⟩)))
     ·split at h
      ·obtain⟨h1,h2,h3⟩:=KH h
       exact⟨h1,h3,fun s g x h=>by rw[h2] at h;cases h⟩
      ·obtain⟨h1,h2,h3⟩:=uO h
       exact⟨h1,h3,fun s g x h=>by rw[h2] at h;cases h⟩
   ·split at h
    ·obtain⟨h1,h2,h3⟩:=uO h
     exact⟨h1,h3,fun s g x h=>by rw[h2] at h;cases h⟩
    ·cases h
  ·split at h
   ·split at h
    ·simp only[Option.some.injEq] at h;subst h;exact⟨rfl,fun d x h=>by simp at h,fun s g x h=>by simp at h⟩
    ·cases h
   ·cases h
  ·split at h
   ·split at h
    ·simp only[Option.some.injEq] at h;subst h;exact⟨rfl,fun d x h=>by simp at h,fun s g x h=>by simp at h⟩
    ·cases h
   ·cases h
  ·split at h
   ·split at h
    ·simp only[Option.some.injEq] at h;subst h;exact⟨rfl,fun d x h=>by simp at h,fun s g x h=>by simp at h⟩
    ·cases h
   ·cases h
  ·rename_i hc;cases dst with
   | none=>simp[cH] at h
   | some d =>
     simp only[cH] at h;split at h
     ·rename_i s x T T' hx hT
      split at h
      ·split at h
       ·cases nP:kS P st T (st.ev s) (st.ev x) with
        | none=>simp[nP] at h
        | some u =>
        simp only[nP,Option.map_some,Option.some.injEq] at h;subst h;refine⟨rfl,nofun,fun s' g' x' hu=>?_⟩
        simp only[Option.some.injEq,Prod.mk.injEq] at hu;obtain⟨rfl,rfl,rfl⟩:=hu
        obtain⟨n0,vA⟩:=AR nP
        refine⟨?_,s, ?_,.inr (.inr (.inr (.inr ⟨0,n0,vA⟩)))⟩
        ·obtain⟨callee,args,rZ⟩:=c
         simp only at hc hx
         subst hc;simp only[mO,hx];cases s with
         | const v =>
           simp[St.ev] at vA
         | _=>rfl
        ·simp only[Op.operands,Call.operands,hc];simp
         rw[← Array.mem_toList_iff,hx];simp
       split at h
       ·simp only[Option.some.injEq] at h;subst h;exact⟨rfl,nofun,nofun⟩
       cases nP:cZ P st T (st.ev s) (st.ev x) with
       | none=>simp[nP] at h
       | some ur =>
         obtain⟨u,r⟩:=ur
         simp only[nP,Option.some.injEq] at h;subst h;refine⟨rfl,fun d x h=>by simp at h;rw[h.1],fun s' g' x' hu=>?_⟩
         simp only[Option.map_eq_some_iff] at hu;obtain⟨⟨s2,g2⟩,hu1,hu2⟩:=hu
         simp only[Prod.mk.injEq] at hu2;obtain⟨rfl,rfl,rfl⟩:=hu2
         subst hu1;have vA:st.ev s=.own s2 g2:=by
          unfold cZ at nP;split at nP
          ·split at nP
           ·split at nP
            ·split at nP
             ·split at nP<;>simp at nP
             ·rename_i s3 g3 hs3;split at nP
              ·split at nP
               ·simp only[Option.some.injEq,Prod.mk.injEq] at nP;obtain⟨⟨rfl,rfl⟩,_⟩:=nP
                exact hs3
               ·cases nP
              ·cases nP
             ·split at nP<;>simp at nP
             ·cases nP
            ·cases nP
           ·cases nP
          ·cases nP
         refine⟨?_,s, ?_,.inr (.inl vA)⟩
         ·obtain⟨callee,args,rZ⟩:=c
          simp only at hc hx
          subst hc;simp only[mO,hx];cases s with
          | const v =>
            simp[St.ev] at vA
          | _=>rfl
         ·simp only[Op.operands,Call.operands,hc];simp
          rw[← Array.mem_toList_iff,hx];simp
      ·cases h
     ·cases h
  ·rename_i hc;split at h
   ·rename_i x T hx hT;cases nP:uA P st T (st.ev x) with
    | none=>simp[nP] at h
    | some u =>
      simp only[nP,Option.map_some,Option.some.injEq] at h;subst h;refine⟨rfl,nofun,fun s' g' x' hu=>?_⟩
      simp only[Option.map_eq_some_iff,Prod.mk.injEq] at hu;obtain⟨p,rfl,rfl,rfl,_⟩:=hu
      obtain⟨o,n,vA⟩:=H4 nP
      refine⟨?_,x, ?_,.inr (.inr (.inr (.inr ⟨o,n,vA⟩)))⟩
      ·obtain⟨callee,args,rZ⟩:=c
       simp only at hc
       subst hc;rfl
      ·simp only[Op.operands,Call.operands,hc];simp
       rw[← Array.mem_toList_iff,hx];simp
   ·cases h
  ·cases h
 case store T x y =>
  simp only[dG] at h;cases hs:pV P st T (st.ev x) (st.ev y) with
  | none=>simp[hs] at h
  | some u =>
    obtain⟨s,g,e'⟩:=u
    simp only[hs,Option.map_some,Option.some.injEq] at h;subst h;refine⟨rfl,fun d x h=>by simp at h,fun s' g' x' hu=>⟨rfl,x,by simp[Op.operands],.inl ?_⟩⟩
    simp only[Option.some.injEq,Prod.mk.injEq] at hu;obtain⟨rfl,rfl,_⟩:=hu
    unfold pV at hs;split at hs
    ·rename_i s1 g1 o1 hp;refine⟨o1, ?_⟩
     rw[hp];split at hs
     ·split at hs
      ·split at hs
       ·split at hs
        ·simp only[Option.some.injEq,Prod.mk.injEq] at hs;rw[hs.1,hs.2.1]
        ·cases hs
       ·split at hs
        ·simp only[Option.some.injEq,Prod.mk.injEq] at hs;rw[hs.1,hs.2.1]
        ·cases hs
       ·cases hs
      ·cases hs
     ·cases hs
    ·cases hs
 case alloc T =>
  simp only[dG] at h;cases dst with
  | none=>simp[cH] at h
  | some d=>cases hz:dW P T with
    | none=>simp[hz,cH] at h
    | some z=>simp only[hz,cH,Option.some.injEq] at h;subst h;exact⟨rfl,fun d x h=>by simp at h;rw[h.1],fun s g x h=>by simp at h⟩
 case box T x =>
  simp only[dG] at h;cases dst with
  | none=>simp[cH] at h
  | some d =>
    simp only[cH] at h;split at h
    ·simp only[Option.some.injEq] at h;subst h;exact⟨rfl,fun d x h=>by simp at h;rw[h.1],fun s g x h=>by simp at h⟩
    ·cases h
 case buildSlice T n parts =>
  simp only[dG] at h;cases dst with
  | none=>simp[cH] at h
  | some d=>cases hs:dL P T with
    | none=>simp[hs,cH] at h
    | some t=>cases hz:dW P t.1 with
      | none=>simp[hs,hz,cH] at h
      | some z =>
        simp only[hs,hz,cH] at h;split at h
        ·cases hf:gR (fun i=>some (i * t.2.1,t.2.1)) ((List.range n).flatMap fun _=>z.map .v) (parts.toList.map fun p=>(p.1,st.ev p.2)) with
         | none=>simp[hf] at h
         | some cs=>simp only[hf,Option.some.injEq] at h;subst h;exact⟨rfl,fun d x h=>by simp at h;rw[h.1],fun s g x h=>by simp at h⟩
        ·cases h
 case makeSlice T l c =>
  simp only[dG] at h;cases dst with
  | none=>simp[cH] at h
  | some d=>cases hs:dL P T with
    | none=>simp[hs,cH] at h
    | some t=>cases hz:dW P t.1 with
      | none=>simp[hs,hz,cH] at h
      | some z =>
        simp only[hs,hz,cH] at h;split at h
        ·split at h
         ·simp only[Option.some.injEq] at h;subst h;exact⟨rfl,fun d x h=>by simp at h;rw[h.1],fun s g x h=>by simp at h⟩
         ·cases h
        ·cases h
 case makeMap T r =>
  cases r with
  | none =>
    simp only[dG] at h;cases dst with
    | none=>simp[cH] at h
    | some d=>simp only[cH,Option.some.injEq] at h;subst h;exact⟨rfl,fun d x h=>by simp at h;rw[h.1],fun s g x h=>by simp at h⟩
  | some r =>
    simp only[dG] at h;obtain⟨h1,h2,h3⟩:=val _ h
    exact⟨h1,h2,fun s g x hu=>absurd hu (h3 s g x)⟩
 case mapUpdate T m x y =>
  simp only[dG] at h;cases hs:tZ P st T (st.ev m) (st.ev x) (st.ev y) with
  | none=>simp[hs] at h
  | some u =>
    obtain⟨s,g,e'⟩:=u
    simp only[hs,Option.map_some,Option.some.injEq] at h;subst h;refine⟨rfl,fun d x h=>by simp at h,fun s' g' x' hu=>⟨rfl,m,by simp[Op.operands],.inr (.inr (.inl ?_))⟩⟩
    simp only[Option.some.injEq,Prod.mk.injEq] at hu;obtain⟨rfl,rfl,_⟩:=hu
    unfold tZ at hs;split at hs
    ·rename_i s1 g1 hp;rw[hp];split at hs
     ·split at hs
      ·simp only[Option.some.injEq,Prod.mk.injEq] at hs;rw[hs.1,hs.2.1]
      ·cases hs
     ·cases hs
    ·cases hs
 all_goals
  simp only[dG] at h;obtain⟨h1,h2,h3⟩:=val _ h
  exact⟨h1,h2,fun s g x hu=>absurd hu (h3 s g x)⟩
noncomputable def sA (P:Program) (call:Nat→List AV→Option AV) (ops:Array Oper) (o:Oper) (st:St):Option qE :=
 match gv ops st o.guard with
 | some b=>if b=true then dG P call o st else some { dst:=o.dst,val:=.v undef }
 | none=>none
theorem Gk (o:Oper):cD P call ops o st=(sA P call ops o st).map fun e=>e.apply st:=by
 unfold cD sA;cases gv ops st o.guard with
 | none=>rfl
 | some b=>cases b<;>rfl
theorem oX {o:Oper} {e:qE} (h:sA P call ops o st=some e) :
 e.dst=o.dst∧(∀d x,e.new=some (d,x)→o.dst=some d)∧(∀s g x,e.dJ=some (s,g,x)→mO ops o=3∧∃p∈o.op.operands,(∃off,st.ev p=.ptr s g off)∨st.ev p=.own s g∨st.ev p=.mp s g∨(∃cs,st.ev p=.agg cs∧.own s g∈cs)∨∃o n,st.ev p=.vw s g o n):=by
 unfold sA at h;split at h
 ·split at h
  ·exact QH h
  ·simp only[Option.some.injEq] at h;subst h;exact⟨rfl,fun d x h=>by simp at h,fun s g x h=>by simp at h⟩
 ·cases h
theorem Vj (hp:AP st) {x y:Oper} {ex:qE} (nP:sW ops x y=true∨sW ops y x=true) (Nl:∀t,mH st.aP (st.env t)) (hx:sA P call ops x st=some ex) :
 sA P call ops y (ex.apply st)=sA P call ops y st:=by
 obtain⟨sd,sn,su⟩:=oX hx
 have u5:(∀d,x.dst=some d→d ∉ y.looksAt ops)∧(∀d,x.dst=some d→y.dst≠some d):=by
  rcases nP with h|h
  ·simp only[sW,Bool.and_eq_true] at h;obtain⟨h1,h2,_⟩:=Oper.apart_spec h.1
   exact⟨h1,h2⟩
  ·simp only[sW,Bool.and_eq_true] at h;obtain⟨_,h2,h3⟩:=Oper.apart_spec h.1
   exact⟨h3,fun d hd hy=>h2 d hy hd⟩
 have henv:∀t,t∈y.looksAt ops→(ex.apply st).env t=st.env t:=fun t ht=>by
  rw[oO,if_neg];intro h;rw[sd] at h;exact u5.1 t h ht
 have DC:∀p∈y.op.operands,(ex.apply st).ev p=st.ev p:=fun p hp=>by
  cases p with
  | tmp t=>exact henv t (by unfold Oper.looksAt;exact List.mem_append_left _ (List.mem_filterMap.2 ⟨.tmp t,by simpa using hp,rfl⟩))
  | _=>rfl
 have hgv:gv ops (ex.apply st) y.guard=gv ops st y.guard:=Z7 fun j want d hg hd=>henv d (by
  unfold Oper.looksAt;apply List.mem_append_right
  rw[hg];simp[hd])
 have hcnt:∀d,y.dst=some d→(ex.apply st).aP d=st.aP d:=fun d hd=>by
  rw[lH];split
  ·rename_i d' z hn
   have:=sn d' z hn
   rw[if_neg];rintro rfl
   exact u5.2 d this hd
  ·rfl
 have Wg:∀p∈y.op.operands,mH st.aP (st.ev p):=fun p hp=>by
  cases p with
  | tmp t=>exact Nl t
  | const v=>exact⟨⟨fun _ _=>False,fun _ _=>undef,st.aP⟩,v,rfl,.v v⟩
  | global g=>exact⟨⟨fun _ _=>False,fun _ _=>undef,st.aP⟩,_,rfl,.v _⟩
  | func f=>exact⟨⟨fun _ _=>False,fun _ _=>undef,st.aP⟩,_,rfl,.v _⟩
 have qH:dG P call y (ex.apply st)=dG P call y st:=by
  by_cases h3:mO ops x=3
  ·refine KG (ops:=ops) ?_ DC hcnt
   have hle:mO ops y=0∨mO ops y=1∨mO ops y=2∨mO ops y=3∨mO ops y=4:=by
    unfold mO;split<;>(try split)<;>(try split)<;>(try split)<;>simp
   rcases nP with h|h<;>simp only[sW,Bool.and_eq_true,h3] at h<;>rcases hle with e|e|e|e|e<;>simp[e] at h ⊢
  ·have hnu:ex.dJ=none:=by
    cases hu:ex.dJ with
    | none=>rfl
    | some sgx=>exact absurd (su sgx.1 sgx.2.1 sgx.2.2 hu).1 h3
   refine QG hp DC Wg (fun s g aY=>?_) hcnt
   rw[tJ,hnu];split
   ·rename_i d z hn;rw[if_neg];rintro⟨rfl,h,_⟩
    omega
   ·rfl
 unfold sA;rw[hgv,qH]
theorem KI {o:Oper} {e:qE} {s g:Nat} {z:Option mV} (Nl:∀t,mH st.aP (st.env t)) (h:sA P call ops o st=some e) (hu:e.dJ=some (s,g,z)):g<st.aP s:=by
 obtain⟨_,_,su⟩:=oX h
 obtain⟨_,p,hp,hv⟩:=su s g z hu
 have Wg:mH st.aP (st.ev p):=by
  cases p with
  | tmp t=>exact Nl t
  | const v=>exact⟨⟨fun _ _=>False,fun _ _=>undef,st.aP⟩,v,rfl,.v v⟩
  | global g=>exact⟨⟨fun _ _=>False,fun _ _=>undef,st.aP⟩,_,rfl,.v _⟩
  | func f=>exact⟨⟨fun _ _=>False,fun _ _=>undef,st.aP⟩,_,rfl,.v _⟩
 rcases hv with ⟨off,hv⟩|hv|hv|⟨cs,hv,hm⟩|⟨o,n,hv⟩
 ·rw[hv] at Wg;exact Wg.ptr
 ·rw[hv] at Wg;exact Wg.own
 ·rw[hv] at Wg;exact Wg.mp
 ·rw[hv] at Wg;exact (Wg.agg _ hm).own
 ·rw[hv] at Wg;exact Wg.vw
theorem aCQ (hp:AP st) {x y:Oper} (nP:sW ops x y=true) (Nl:∀t,mH st.aP (st.env t)) {s1 s2:St} (hx:cD P call ops x st=some s1) (hy:cD P call ops y s1=some s2) :
 ∃s3,cD P call ops y st=some s3∧cD P call ops x s3=some s2:=by
 rw[Gk] at hx hy;cases hex:sA P call ops x st with
 | none=>simp[hex] at hx
 | some ex =>
   simp only[hex,Option.map_some,Option.some.injEq] at hx;subst hx;rw[Vj hp (.inl nP) Nl hex] at hy;cases u6:sA P call ops y st with
   | none=>simp[u6] at hy
   | some ey =>
     simp only[u6,Option.map_some,Option.some.injEq] at hy;subst hy;refine⟨ey.apply st,by rw[Gk,u6];rfl, ?_⟩
     rw[Gk,Vj hp (.inr nP) Nl u6,hex];simp only[Option.map_some,Option.some.injEq];obtain⟨dx,nx,ux⟩:=oX hex
     obtain⟨dy,ny,uy⟩:=oX u6
     have hd:∀d,x.dst=some d→y.dst≠some d:=by
      simp only[sW,Bool.and_eq_true] at nP;exact (Oper.apart_spec nP.1).2.1
     have Ay:¬(ex.dJ≠none∧ey.dJ≠none):=by
      rintro⟨h1,h2⟩
      cases hu:ex.dJ with
      | none=>exact h1 hu
      | some a=>cases hv:ey.dJ with
        | none=>exact h2 hv
        | some b =>
          have e1:=(ux a.1 a.2.1 a.2.2 hu).1
          have e2:=(uy b.1 b.2.1 b.2.2 hv).1
          simp[sW,e1,e2] at nP
     apply Z9
     ·funext t
      rw[oO,oO,oO,oO,dx,dy];by_cases h1:x.dst=some t
      ·rw[if_pos h1,if_pos h1,if_neg (hd t h1)]
      ·rw[if_neg h1,if_neg h1]
     ·funext s g
      rw[tJ,tJ,tJ,tJ];have cx:∀d z,ey.new=some (d,z)→(ex.apply st).aP d=st.aP d:=fun d z hn=>by
       rw[lH];split
       ·rename_i d' z' Ju
        rw[if_neg];rintro rfl
        exact hd _ (nx _ _ Ju) (ny _ _ hn)
       ·rfl
      have cy:∀d z,ex.new=some (d,z)→(ey.apply st).aP d=st.aP d:=fun d z hn=>by
       rw[lH];split
       ·rename_i d' z' Ju
        rw[if_neg];rintro rfl
        exact hd _ (nx _ _ hn) (ny _ _ Ju)
       ·rfl
      cases H5:ex.new with
      | none =>
        cases UJ:ey.new with
        | none =>
          cases hux:ex.dJ with
          | none=>rfl
          | some a=>cases huy:ey.dJ with
            | none=>rfl
            | some b=>exact absurd ⟨by rw[hux];simp,by rw[huy];simp⟩ Ay
        | some b =>
          obtain⟨d,z⟩:=b
          simp only[cx d z UJ];cases hux:ex.dJ with
          | none=>rfl
          | some a =>
            obtain⟨s0,g0,e0⟩:=a
            have aY:=KI Nl hex hux
            cases huy:ey.dJ with
            | none =>
              simp only
              by_cases h1:s=d∧st.aP d≤g∧g-st.aP d<z.length
              ·rw[if_neg (by obtain⟨rfl,ha,hb⟩:=h1;rintro⟨rfl,rfl⟩;omega),if_pos h1,if_pos h1]
              ·rw[if_neg h1,if_neg h1]
            | some b=>exact absurd ⟨by rw[hux];simp,by rw[huy];simp⟩ Ay
      | some a =>
        obtain⟨d,z⟩:=a
        cases UJ:ey.new with
        | none =>
          simp only[cy d z H5];cases huy:ey.dJ with
          | none=>rfl
          | some a =>
            obtain⟨s0,g0,e0⟩:=a
            have aY:=KI Nl u6 huy
            cases hux:ex.dJ with
            | none =>
              simp only
              by_cases h1:s=d∧st.aP d≤g∧g-st.aP d<z.length
              ·rw[if_pos h1,if_neg (by obtain⟨rfl,ha,hb⟩:=h1;rintro⟨rfl,rfl⟩;omega),if_pos h1]
              ·rw[if_neg h1,if_neg h1]
            | some b=>exact absurd ⟨by rw[hux];simp,by rw[huy];simp⟩ Ay
        | some b =>
          obtain⟨d',z'⟩:=b
          simp only[cy d z H5,cx d' z' UJ];have H6:d≠d':=by
           rintro rfl
           exact hd _ (nx _ _ H5) (ny _ _ UJ)
          cases hux:ex.dJ with
          | none =>
            cases huy:ey.dJ with
            | none =>
              simp only
              by_cases h1:s=d∧st.aP d≤g∧g-st.aP d<z.length
              ·rw[if_pos h1,if_pos h1,if_neg (fun h=>H6 (h1.1.symm.trans h.1))]
              ·rw[if_neg h1,if_neg h1]
            | some b =>
              obtain⟨s0,g0,e0⟩:=b
              have aY:=KI Nl u6 huy
              simp only
              by_cases h1:s=d∧st.aP d≤g∧g-st.aP d<z.length
              ·rw[if_pos h1,if_pos h1,if_neg (fun h=>H6 (h1.1.symm.trans h.1)),if_neg (by obtain⟨rfl,ha,hb⟩:=h1;rintro⟨rfl,rfl⟩;omega)]
              ·rw[if_neg h1,if_neg h1]
          | some a =>
            obtain⟨s0,g0,e0⟩:=a
            have aY:=KI Nl hex hux
            cases huy:ey.dJ with
            | none =>
              simp only
              by_cases h1:s=d∧st.aP d≤g∧g-st.aP d<z.length
              ·rw[if_pos h1,if_pos h1,if_neg (fun h=>H6 (h1.1.symm.trans h.1))]
              ·rw[if_neg h1,if_neg h1];by_cases h2:s=d'∧st.aP d'≤g∧g-st.aP d'<z'.length
               ·rw[if_pos h2,if_neg (by obtain⟨rfl,ha,hb⟩:=h2;rintro⟨rfl,rfl⟩;omega),if_pos h2]
               ·rw[if_neg h2,if_neg h2]
            | some b=>exact absurd ⟨by rw[hux];simp,by rw[huy];simp⟩ Ay
     ·funext s
      cases H5:ex.new with
      | none=>cases UJ:ey.new<;>simp only[lH,H5,UJ]
      | some a =>
        obtain⟨d,z⟩:=a
        cases UJ:ey.new with
        | none=>simp only[lH,H5,UJ]
        | some b =>
          obtain⟨d',z'⟩:=b
          have H6:d≠d':=by
           rintro rfl
           exact hd _ (nx _ _ H5) (ny _ _ UJ)
          simp only[lH,H5,UJ];rw[if_neg H6,if_neg (Ne.symm H6)];by_cases h1:s=d
          ·subst h1;rw[if_neg H6,if_pos rfl,if_neg H6]
          ·rw[if_neg h1,if_neg h1]
def Ja (st st':St) (x:AV):Prop:=∀s g,keyOf x=some (some (s,g))→st'.heap s g=st.heap s g
theorem XE {x:AV} (h:Ja st st' x):qN st' x=qN st x:=by
 cases x<;>simp only[qN]
 rw[h _ _ rfl]
theorem wT {x:AV} (h:Ja st st' x):aQ st' x=aQ st x:=by
 cases x
 case own=>simp only[aQ,h _ _ rfl]
 case vw=>simp only[aQ,h _ _ rfl]
 case v y =>
  cases y
  case slice p n c=>cases p<;>cases n<;>cases c<;>rfl
  all_goals rfl
 all_goals rfl
theorem AS {T:Nat} {x i:AV} (h:Ja st st' x):bD P st' T x i=bD P st T x i:=by
 unfold bD;cases x<;>try rfl
 simp only[h _ _ rfl]
theorem XF {T:Nat} {x y:AV} (h:Ja st st' x):pV P st' T x y=pV P st T x y:=by
 unfold pV;cases x<;>try rfl
 simp only[h _ _ rfl]
theorem XG {T:Nat} {x:AV} {lo hi:Option Operand} (hx:Ja st st' x) (hl:∀p,lo=some p→st'.ev p=st.ev p) (Dg:∀p,hi=some p→st'.ev p=st.ev p):cX P st' T x lo hi=cX P st T x lo hi :=
 AO (fun s g h=>by
  rcases h with ⟨o,rfl⟩|rfl|⟨o,n,rfl⟩<;>exact hx _ _ rfl) hl Dg
theorem QI {T:Nat} {s x:AV} (hs:Ja st st' s) (hx:Ja st st' x):cZ P st' T s x=cZ P st T s x:=by
 unfold cZ;rw[wT hx];cases s
 case own=>simp only[hs _ _ rfl]
 case v y =>
  cases y
  case slice p n c=>cases p<;>cases n<;>cases c<;>rfl
  all_goals rfl
 all_goals rfl
theorem QJ {T:Nat} {s x:AV} (hs:Ja st st' s) (hx:Ja st st' x):kS P st' T s x=kS P st T s x:=by
 unfold kS;rw[wT hx];cases dL P T with
 | none=>rfl
 | some t=>cases aQ st x with
   | none=>rfl
   | some mn =>
     cases s<;>try rfl
     case vw s g o n =>
      cases o with
      | zero=>simp only[hs _ _ rfl]
      | succ o=>rfl
theorem XH {r:AV} {dst:Option Nat} (hc:∀d,dst=some d→st'.aP d=st.aP d):iU r st' dst=iU r st dst:=by
 unfold iU;cases dst with
 | none=>rfl
 | some d=>simp only[hc d rfl]
theorem XI {g:Nat} {x:AV} {args:List AV} {dst:Option Nat} (hx:Ja st st' x) (hc:∀d,dst=some d→st'.aP d=st.aP d):lI call g (x :: args) st' dst=lI call g (x :: args) st dst:=by
 unfold lI;split
 ·rename_i s k rest heq;simp only[List.cons.injEq] at heq;obtain⟨rfl,rfl⟩:=heq
  rw[hx _ _ rfl];cases dst with
  | none=>rfl
  | some d=>simp only[hc d rfl]
 ·split
  ·rename_i hf;unfold aM;rw[if_pos hf,if_pos hf];have h2:∀r,iU r st' dst=iU r st dst:=fun r=>XH hc
   simp only[h2]
  ·rfl
theorem EC {o:Oper} {aS:List Nat} (h:gV o=some aS):o.guard=none:=by
 unfold gV at h;split at h
 ·cases h
 ·assumption
theorem KJ {o:Oper} {aS:List Nat} (ha:gV o=some aS):sA P call ops o st=dG P call o st:=by
 unfold sA;rw[EC ha];rfl
inductive Vk:Op→List Nat→Prop
 | load (T a:Nat):Vk (.load T (.tmp a)) [a]
 | store (T a:Nat) (x:Operand):Vk (.store T (.tmp a) x) [a]
 | indexAddr (T a:Nat) (x:Operand):Vk (.indexAddr T (.tmp a) x) [a]
 | slice (T a:Nat) (lo hi mx:Option Operand):Vk (.slice T (.tmp a) lo hi mx) [a]
 | len (a:Nat) (args:Array Operand) (rZ:Array Nat) (h:args.toList=[.tmp a]):Vk (.call ⟨.builtin .len,args,rZ⟩) [a]
 | append (a b:Nat) (args:Array Operand) (rZ:Array Nat) (h:args.toList=[.tmp a,.tmp b]):Vk (.call ⟨.builtin .append,args,rZ⟩) [a,b]
 | mv (g a:Nat) (r:List Operand) (args:Array Operand) (rZ:Array Nat) (h:args.toList=.tmp a :: r) (hg:Ext.mv g=true):Vk (.call ⟨.value (.func g),args,rZ⟩) [a]
theorem Qy {o:Oper} {aS:List Nat} (h:gV o=some aS):Vk o.op aS:=by
 unfold gV at h;split at h
 ·cases h
 ·split at h
  ·rename_i T a ho;simp only[Option.some.injEq] at h;subst h;rw[ho];exact .load T a
  ·rename_i T a x ho;simp only[Option.some.injEq] at h;subst h;rw[ho];exact .store T a x
  ·rename_i T a x ho;simp only[Option.some.injEq] at h;subst h;rw[ho];exact .indexAddr T a x
  ·rename_i T a lo hi mx ho;simp only[Option.some.injEq] at h;subst h;rw[ho];exact .slice T a lo hi mx
  ·rename_i args rZ ho;split at h
   ·rename_i a hl;simp only[Option.some.injEq] at h;subst h;rw[ho];exact .len a args rZ hl
   ·cases h
  ·rename_i args rZ ho;split at h
   ·rename_i a b hl;simp only[Option.some.injEq] at h;subst h;rw[ho];exact .append a b args rZ hl
   ·cases h
  ·rename_i g args rZ ho;split at h
   ·rename_i a r hl;split at h
    ·rename_i hg;simp only[Option.some.injEq] at h;subst h;rw[ho];exact .mv g a r args rZ hl hg
    ·cases h
   ·cases h
  ·cases h
theorem H7 {T s g:Nat} {p x:AV} {e':mV} (hs:pV P st T p x=some (s,g,e')):∃o,p=.ptr s g o:=by
 unfold pV at hs;split at hs
 ·rename_i s1 g1 o1;split at hs
  ·split at hs
   ·split at hs
    ·split at hs
     ·simp only[Option.some.injEq,Prod.mk.injEq] at hs;obtain⟨rfl,rfl,_⟩:=hs;exact⟨_,rfl⟩
     ·cases hs
    ·split at hs
     ·simp only[Option.some.injEq,Prod.mk.injEq] at hs;obtain⟨rfl,rfl,_⟩:=hs;exact⟨_,rfl⟩
     ·cases hs
    ·cases hs
   ·cases hs
  ·cases hs
 ·cases hs
theorem XJ {T s g:Nat} {p x:AV} {r:mV} (nP:cZ P st T p x=some (some (s,g),r)):p=.own s g:=by
 unfold cZ at nP;split at nP
 ·split at nP
  ·split at nP
   ·split at nP
    ·split at nP<;>simp at nP
    ·rename_i s3 g3;split at nP
     ·split at nP
      ·simp only[Option.some.injEq,Prod.mk.injEq] at nP;obtain⟨⟨rfl,rfl⟩,_⟩:=nP
       rfl
      ·cases nP
     ·cases nP
    ·split at nP<;>simp at nP
    ·cases nP
   ·cases nP
  ·cases nP
 ·cases nP
theorem Tp {o:Oper} {aS:List Nat} {e:qE} (ha:gV o=some aS) (h:sA P call ops o st=some e) :
 ∀s g z,e.dJ=some (s,g,z)→∃a∈aS,keyOf (st.env a)=some (some (s,g)):=by
 rw[KJ ha] at h;have hk:=Qy ha
 clear ha
 obtain⟨dst,op,type,pos,after,guard⟩:=o
 have val:∀(v:Option AV),(v.map fun x=>({ dst:=dst,val:=x }:qE))=some e→e.dJ=none:=fun v hv=>by
  cases v with
  | none=>cases hv
  | some v=>simp only[Option.map_some,Option.some.injEq] at hv;subst hv;rfl
 intro s g z hu;cases hk
 case load T a=>simp only[dG] at h;rw[val _ h] at hu;cases hu
 case indexAddr T a x=>simp only[dG] at h;rw[val _ h] at hu;cases hu
 case slice T a lo hi mx=>simp only[dG] at h;rw[val _ h] at hu;cases hu
 case len a args rZ hl =>
  simp only[dG,gZ,hl] at h;split at h
  ·split at h
   ·simp only[Option.some.injEq] at h;subst h;cases hu
   ·cases h
  ·cases h
 case store T a x =>
  simp only[dG] at h;cases hs:pV P st T (st.ev (.tmp a)) (st.ev x) with
  | none=>simp[hs] at h
  | some u =>
    obtain⟨s',g',e'⟩:=u
    simp only[hs,Option.map_some,Option.some.injEq] at h;subst h;simp only[Option.some.injEq,Prod.mk.injEq] at hu;obtain⟨rfl,rfl,_⟩:=hu
    obtain⟨o1,ho1⟩:=H7 hs
    exact⟨a,by simp,by rw[show st.env a=st.ev (.tmp a) from rfl,ho1];rfl⟩
 case append a b args rZ hl =>
  simp only[dG,gZ,hl] at h;cases dst with
  | none=>simp[cH] at h
  | some d =>
    simp only[cH] at h;split at h
    ·rename_i s0 x0 T T' heq _
     simp only[List.cons.injEq,and_true] at heq;obtain⟨rfl,rfl⟩:=heq
     split at h
     ·split at h
      ·cases nP:kS P st T (st.ev (.tmp a)) (st.ev (.tmp b)) with
       | none=>simp[nP] at h
       | some u =>
       simp only[nP,Option.map_some,Option.some.injEq] at h;subst h;simp only[Option.some.injEq,Prod.mk.injEq] at hu;obtain⟨rfl,rfl,rfl⟩:=hu
       obtain⟨n0,vA⟩:=AR nP
       exact⟨a,by simp,by rw[show st.env a=st.ev (.tmp a) from rfl,vA];rfl⟩
      split at h
      ·simp only[Option.some.injEq] at h;subst h;cases hu
      cases nP:cZ P st T (st.ev (.tmp a)) (st.ev (.tmp b)) with
      | none=>simp[nP] at h
      | some ur =>
        obtain⟨u,r⟩:=ur
        simp only[nP,Option.some.injEq] at h;subst h;cases u with
        | none=>cases hu
        | some p =>
          simp only[Option.map_some,Option.some.injEq,Prod.mk.injEq] at hu;obtain⟨rfl,rfl,_⟩:=hu
          exact⟨a,by simp,by rw[show st.env a=st.ev (.tmp a) from rfl,XJ nP];rfl⟩
     ·cases h
    ·cases h
 case mv g' a r args rZ hl hg =>
  simp only[dG,gZ,mX] at h;rw[if_pos hg] at h;obtain⟨_,_,h3⟩:=Qx h
  have:=h3 s g z hu
  rw[hl] at this;simp only[List.map_cons,List.head?_cons,Option.some.injEq,St.ev] at this;exact⟨a,by simp,by rw[this];rfl⟩
theorem mem_congr {o:Oper} {aS:List Nat} (ha:gV o=some aS) (DC:∀p∈o.op.operands,st'.ev p=st.ev p) (hh:∀a∈aS,Ja st st' (st.env a)) (hc:∀d,o.dst=some d→st'.aP d=st.aP d) :
 sA P call ops o st'=sA P call ops o st:=by
 rw[KJ ha,KJ ha];have hk:=Qy ha
 clear ha
 obtain⟨dst,op,type,pos,after,guard⟩:=o
 simp only at hk DC hc
 cases hk
 case load T a =>
  have h1:st'.env a=st.env a:=DC (.tmp a) (by simp[Op.operands])
  simp only[dG,iT,St.ev,h1,XE (hh a (by simp))]
 case store T a x =>
  have h1:st'.env a=st.env a:=DC (.tmp a) (by simp[Op.operands])
  have h2:=DC x (by simp[Op.operands])
  have h3:st'.ev (.tmp a)=st.ev (.tmp a):=h1
  simp only[dG,h2,h3];rw[show st.ev (.tmp a)=st.env a from rfl,XF (hh a (by simp))]
 case indexAddr T a x =>
  have h1:st'.env a=st.env a:=DC (.tmp a) (by simp[Op.operands])
  have h2:=DC x (by simp[Op.operands])
  have h3:st'.ev (.tmp a)=st.ev (.tmp a):=h1
  simp only[dG,iT,h2,h3];rw[show st.ev (.tmp a)=st.env a from rfl,AS (hh a (by simp))]
 case slice T a lo hi mx =>
  have h1:st'.env a=st.env a:=DC (.tmp a) (by simp[Op.operands])
  have h3:st'.ev (.tmp a)=st.ev (.tmp a):=h1
  have hl:∀p,lo=some p→st'.ev p=st.ev p:=fun p hp=>DC p (by subst hp;simp[Op.operands])
  have Dg:∀p,hi=some p→st'.ev p=st.ev p:=fun p hp=>DC p (by subst hp;simp[Op.operands])
  have hm:∀p,mx=some p→st'.ev p=st.ev p:=fun p hp=>DC p (by subst hp;simp[Op.operands])
  have hS:=XG (P:=P) (T:=T) (hh a (by simp)) hl Dg
  cases mx with
  | none =>
    simp only[dG,iT,h3];rw[show st.ev (.tmp a)=st.env a from rfl,hS]
  | some m =>
    cases hi with
    | none=>rfl
    | some h =>
      simp only[dG,iT,h3];rw[Vi (fun s g hx=>hh a (by simp) s g (by rw[show st.env a=st.ev (.tmp a) from rfl,hx];rfl)) hl (Dg h rfl) (hm m rfl)]
 case len a args rZ hl =>
  have h1:st'.env a=st.env a:=DC (.tmp a) (by simp[Op.operands,Call.operands,← Array.mem_toList_iff,hl])
  have h3:st'.ev (.tmp a)=st.ev (.tmp a):=h1
  have hv:aQ st' (st'.ev (.tmp a))=aQ st (st.ev (.tmp a)):=by rw[h3];exact wT (hh a (by simp))
  simp only[dG,gZ,hl];cases rZ.toList with
  | nil=>rfl
  | cons T r=>cases r with
    | nil=>simp only[hv]
    | cons _ _=>rfl
 case append a b args rZ hl =>
  have h1:st'.ev (.tmp a)=st.ev (.tmp a):=DC (.tmp a) (by simp[Op.operands,Call.operands,← Array.mem_toList_iff,hl])
  have h2:st'.ev (.tmp b)=st.ev (.tmp b):=DC (.tmp b) (by simp[Op.operands,Call.operands,← Array.mem_toList_iff,hl])
  have hV:∀T,kS P st' T (st.ev (.tmp a)) (st.ev (.tmp b))=kS P st T (st.ev (.tmp a)) (st.ev (.tmp b)):=fun T=>QJ (hh a (by simp)) (hh b (by simp))
  have hA:∀T,cZ P st' T (st.ev (.tmp a)) (st.ev (.tmp b))=cZ P st T (st.ev (.tmp a)) (st.ev (.tmp b)):=fun T=>QI (hh a (by simp)) (hh b (by simp))
  simp only[dG,gZ,hl];cases dst with
  | none=>rfl
  | some d =>
    simp only[cH,hc d rfl];cases rZ.toList with
    | nil=>rfl
    | cons T r=>cases r with
      | nil=>rfl
      | cons T' r'=>cases r' with
        | nil =>
          have hn:Hw P st' T (st'.ev (.tmp a)) (st'.ev (.tmp b))=Hw P st T (st.ev (.tmp a)) (st.ev (.tmp b)):=by
           have h3:aQ st' (st.ev (.tmp b))=aQ st (st.ev (.tmp b)):=wT (hh b (by simp))
           simp only[Hw,h1,h2,h3]
          simp only[];rw[hn,h1,h2,hA,hV]
        | cons _ _=>rfl
 case mv g' a r args rZ hl hg =>
  have he:∀p∈args.toList,st'.ev p=st.ev p:=fun p hp=>DC p (by simp[Op.operands,Call.operands,← Array.mem_toList_iff,hp])
  have h1:args.toList.map st'.ev=args.toList.map st.ev:=List.map_congr_left he
  simp only[dG,gZ,mX];rw[if_pos hg,if_pos hg,h1,hl];simp only[List.map_cons];exact XI (hh a (by simp)) hc
theorem aAb {x y:AV} (h:fW x y∨fW y x) {k k':Nat × Nat} (hx:keyOf x=some (some k)) (hy:keyOf y=some (some k')):k≠k':=by
 unfold fW at h;rw[hx,hy] at h;rcases h with h|h
 ·exact h
 ·exact fun e=>h e.symm
theorem aAc {aP:Nat→Nat} {x:AV} {s g:Nat} (h:mH aP x) (hk:keyOf x=some (some (s,g))):g<aP s:=by
 cases x<;>simp only[keyOf,Option.some.injEq,Prod.mk.injEq,reduceCtorEq] at hk
 ·obtain⟨rfl,rfl⟩:=hk;exact h.ptr
 ·obtain⟨rfl,rfl⟩:=hk;exact h.own
 ·obtain⟨rfl,rfl⟩:=hk;exact h.vw
theorem HN {x y:Oper} {aS bs:List Nat} {ex:qE} (Nl:∀t,mH st.aP (st.env t)) (hax:gV x=some aS) (hay:gV y=some bs) (u5:∀d,x.dst=some d→d ∉ y.looksAt ops) (lD:∀d,x.dst=some d→y.dst≠some d)
 (hf:∀a∈aS,∀b∈bs,fW (st.env a) (st.env b)∨fW (st.env b) (st.env a)) (hx:sA P call ops x st=some ex):sA P call ops y (ex.apply st)=sA P call ops y st:=by
 obtain⟨sd,sn,_⟩:=oX hx
 have su:=Tp hax hx
 refine mem_congr hay (fun p hp=>?_) (fun b hb s g hk=>?_) fun d hd=>?_
 ·cases p with
  | tmp t =>
    show (ex.apply st).env t=st.env t
    rw[oO,if_neg];intro h;rw[sd] at h;exact u5 t h (by unfold Oper.looksAt;exact List.mem_append_left _ (List.mem_filterMap.2 ⟨.tmp t,by simpa using hp,rfl⟩))
  | _=>rfl
 ·have aY:=aAc (Nl b) hk
  have hupd:(match ex.dJ with|some (s0,g0,y)=>if s=s0∧g=g0 then y else st.heap s g|none=>st.heap s g)=st.heap s g:=by
   cases hu:ex.dJ with
   | none=>rfl
   | some u =>
     obtain⟨s0,g0,z⟩:=u
     obtain⟨a,ha,hka⟩:=su s0 g0 z hu
     simp only
     rw[if_neg];rintro⟨rfl,rfl⟩
     exact aAb (hf a ha b hb) hka hk rfl
  rw[tJ];split
  ·rename_i d es hn;rw[if_neg (by rintro⟨rfl,h,_⟩;omega)]
   exact hupd
  ·exact hupd
 ·rw[lH];split
  ·rename_i d' z hn
   rw[if_neg];rintro rfl
   exact lD _ (sn _ _ hn) hd
  ·rfl
theorem aAd {α:Type} {A B C D:Prop} [Decidable A] [Decidable B] [Decidable C] [Decidable D] {na nb uc ud h:α} (h1:A→¬B) (h2:A→¬D) (h3:C→¬B) (h4:C→¬D) :
 (if B then nb else if D then ud else if A then na else if C then uc else h)=(if A then na else if C then uc else if B then nb else if D then ud else h):=by
 by_cases a:A
 ·rw[if_neg (h1 a),if_neg (h2 a),if_pos a,if_pos a]
 ·rw[if_neg a,if_neg a];by_cases c:C
  ·rw[if_neg (h3 c),if_neg (h4 c),if_pos c,if_pos c]
  ·rw[if_neg c,if_neg c]
def Tq (e:qE) (aP:Nat→Nat) (s g:Nat):Prop:=∃d es,e.new=some (d,es)∧s=d∧aP d≤g∧g-aP d<es.length
def XK (e:qE) (s g:Nat):Prop:=∃z,e.dJ=some (s,g,z)
def Jb (e:qE) (aP:Nat→Nat) (g:Nat):Option mV:=match e.new with|some (d,es)=>es[g-aP d]? | none=>none
def XL (e:qE):Option mV:=match e.dJ with|some (_,_,z)=>z|none=>none
theorem Cb (e:qE) (st:St) (s g:Nat):(e.apply st).heap s g=if Tq e st.aP s g then Jb e st.aP g else if XK e s g then XL e else st.heap s g:=by
 have hu:(match e.dJ with|some (s0,g0,y)=>if s=s0∧g=g0 then y else st.heap s g|none=>st.heap s g)=if XK e s g then XL e else st.heap s g:=by
  unfold XK XL;cases hu:e.dJ with
  | none=>simp
  | some u =>
    obtain⟨s0,g0,z⟩:=u
    simp only
    by_cases h:s=s0∧g=g0
    ·obtain⟨rfl,rfl⟩:=h
     rw[if_pos ⟨rfl,rfl⟩,if_pos ⟨z,rfl⟩]
    ·rw[if_neg h,if_neg];rintro⟨z',h'⟩
     simp only[Option.some.injEq,Prod.mk.injEq] at h'
     exact h ⟨h'.1.symm,h'.2.1.symm⟩
 rw[tJ];unfold Tq Jb;cases hn:e.new with
 | none=>simp only;rw[if_neg (by rintro⟨d,es,h,_⟩;cases h)];exact hu
 | some p =>
   obtain⟨d,es⟩:=p
   simp only
   by_cases h:s=d∧st.aP d≤g∧g-st.aP d<es.length
   ·rw[if_pos h,if_pos ⟨d,es,rfl,h⟩]
   ·rw[if_neg h,if_neg]
    ·exact hu
    ·rintro⟨d',es',h',h2⟩
     simp only[Option.some.injEq,Prod.mk.injEq] at h'
     obtain⟨rfl,rfl⟩:=h'
     exact h h2
theorem aAe {x y:Oper} {aS bs:List Nat} (Nl:∀t,mH st.aP (st.env t)) (hax:gV x=some aS) (hay:gV y=some bs) (nP:Oper.apart ops x y=true) (hf:My st aS bs) {s1 s2:St} (hx:cD P call ops x st=some s1) (hy:cD P call ops y s1=some s2) :
 ∃s3,cD P call ops y st=some s3∧cD P call ops x s3=some s2:=by
 obtain⟨l1,l2,l3⟩:=Oper.apart_spec nP
 have l2':∀d,y.dst=some d→x.dst≠some d:=fun d hd hx=>l2 d hx hd
 rw[Gk] at hx hy;cases hex:sA P call ops x st with
 | none=>simp[hex] at hx
 | some ex =>
   simp only[hex,Option.map_some,Option.some.injEq] at hx;subst hx;rw[HN Nl hax hay l1 l2 (fun a ha b hb=>.inl (hf a ha b hb)) hex] at hy
   cases u6:sA P call ops y st with
   | none=>simp[u6] at hy
   | some ey =>
     simp only[u6,Option.map_some,Option.some.injEq] at hy;subst hy;refine⟨ey.apply st,by rw[Gk,u6];rfl, ?_⟩
     rw[Gk,HN Nl hay hax l3 l2' (fun b hb a ha=>.inr (hf a ha b hb)) u6,hex]
     simp only[Option.map_some,Option.some.injEq];obtain⟨dx,nx,_⟩:=oX hex
     obtain⟨dy,ny,_⟩:=oX u6
     have ux:=Tp hax hex
     have uy:=Tp hay u6
     have cx:∀d z,ey.new=some (d,z)→(ex.apply st).aP d=st.aP d:=fun d z hn=>by
      rw[lH];split
      ·rename_i d' z' Ju
       rw[if_neg];rintro rfl
       exact l2 _ (nx _ _ Ju) (ny _ _ hn)
      ·rfl
     have cy:∀d z,ex.new=some (d,z)→(ey.apply st).aP d=st.aP d:=fun d z hn=>by
      rw[lH];split
      ·rename_i d' z' Ju
       rw[if_neg];rintro rfl
       exact l2 _ (nx _ _ hn) (ny _ _ Ju)
      ·rfl
     apply Z9
     ·funext t
      rw[oO,oO,oO,oO,dx,dy];by_cases h1:x.dst=some t
      ·rw[if_pos h1,if_pos h1,if_neg (l2 t h1)]
      ·rw[if_neg h1,if_neg h1]
     ·funext s g
      have nyE:Tq ey (ex.apply st).aP s g↔Tq ey st.aP s g:=by
       constructor
       ·rintro⟨d,es,h,h2⟩;rw[cx d es h] at h2;exact⟨d,es,h,h2⟩
       ·rintro⟨d,es,h,h2⟩;rw[← cx d es h] at h2;exact⟨d,es,h,h2⟩
      have nxE:Tq ex (ey.apply st).aP s g↔Tq ex st.aP s g:=by
       constructor
       ·rintro⟨d,es,h,h2⟩;rw[cy d es h] at h2;exact⟨d,es,h,h2⟩
       ·rintro⟨d,es,h,h2⟩;rw[← cy d es h] at h2;exact⟨d,es,h,h2⟩
      have vyE:Jb ey (ex.apply st).aP g=Jb ey st.aP g:=by
       unfold Jb;cases hn:ey.new with
       | none=>rfl
       | some p=>simp only[cx p.1 p.2 hn]
      have vxE:Jb ex (ey.apply st).aP g=Jb ex st.aP g:=by
       unfold Jb;cases hn:ex.new with
       | none=>rfl
       | some p=>simp only[cy p.1 p.2 hn]
      rw[Cb,Cb,Cb,Cb];simp only[nyE,nxE,vyE,vxE];symm
      have idk:∀a s g,keyOf (st.env a)=some (some (s,g))→g<st.aP s:=fun a s g h=>aAc (Nl a) h
      refine aAd ?_ ?_ ?_ ?_
      ·rintro⟨d,es,h,rfl,_⟩ ⟨d',es',h',rfl,_⟩
       exact l2 _ (nx _ _ h) (ny _ _ h')
      ·rintro⟨d,es,h,rfl,h1,_⟩ ⟨z,h'⟩
       obtain⟨b,_,hb⟩:=uy _ _ _ h'
       have:=idk b _ _ hb
       omega
      ·rintro⟨z,h⟩ ⟨d,es,h',rfl,h1,_⟩
       obtain⟨a,_,ha⟩:=ux _ _ _ h
       have:=idk a _ _ ha
       omega
      ·rintro⟨z,h⟩ ⟨z',h'⟩
       obtain⟨a,ha,hka⟩:=ux _ _ _ h
       obtain⟨b,hb,hkb⟩:=uy _ _ _ h'
       exact aAb (.inl (hf a ha b hb)) hka hkb rfl
     ·funext s
      rw[lH,lH];cases H5:ex.new with
      | none=>cases UJ:ey.new<;>simp only[lH,H5,UJ]
      | some a =>
        obtain⟨d,z⟩:=a
        cases UJ:ey.new with
        | none=>simp only[lH,H5,UJ]
        | some b =>
          obtain⟨d',z'⟩:=b
          have H6:d≠d':=by
           rintro rfl
           exact l2 _ (nx _ _ H5) (ny _ _ UJ)
          simp only[lH,H5,UJ];rw[if_neg H6,if_neg (Ne.symm H6)];by_cases h1:s=d
          ·subst h1;rw[if_neg H6,if_pos rfl,if_neg H6]
          ·rw[if_neg h1,if_neg h1]
end
end Go.Ab
end
