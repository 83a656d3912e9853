/-
  Part 3 of the proof: an evaluator of programs, its soundness, and what functions of this program compute.
-/
import Derived.Test.YtmcjkemalibacaaGreatK2
import Derived.Deep.Upon
set_option linter.all false
set_option maxRecDepth 20000
set_option maxHeartbeats 40000000
section
namespace Go.Ab
open Classical
section
variable {P:Program} {h0:Nat→Obj→Prop} {w0:World} {F:Fi} {nt:Nat} {ρ:Nat→Nat→Value} {st:St} {a:Act} {w:World} {K:Act→World→Prop} {Q:Exit→Act→World→Prop}
theorem Ey {base T ty e:Nat} {ei:TypeInfo} {ez:Value} (hT:P.underlying T=some (.slice e)) (By:P.info? e=some ei) (BB:ei.zero=some ez) (AU:ez.cells.size=ei.size) (Ai:0<ei.size)
 (xA:base≤w.heap.size) {v:Value} {n:Nat} {xs:List Value} (zV:oD w base e ei.size v n xs)
 {p:Option Addr} {m c:Nat} {news:List Value} (hl:news.length=m * ei.size) (Y3:news≠[]→∃ad,p=some ad∧∀(j:Nat) (u:Value),news[j]? = some u→w.cell? (ad.add j)=some u)
 (h1:∀u∈news,u.oneCell'=true) (h63:n+m≤maxLen) (hb:(n+m) * ei.bytes≤140737488355328) :
 ∃v' w',(Builtin.append_ #[T,T] ty #[v,.slice p m c]).run P w=.ok v' w'∧oD w' base e ei.size v' (n+m) (xs++news)∧w.grownBy w' (dI v)∧(∀b,dI v'=some b→dI v=some b∨w.heap.size≤b):=by
 by_cases hm:m=0
 ·subst hm;have hn:news=[]:=List.eq_nil_of_length_eq_zero (by simpa using hl)
  subst hn;refine⟨v,w, ?_,by simpa using zV,⟨rfl,rfl,rfl,Nat.le_refl _,fun _ _ _=>rfl⟩,fun b hb=>.inl hb⟩
  have hfc:∀(x:Value),(∃p,x=.slice p 0 c)→(Builtin.firstCells ei.size 0 x).run P w=.ok #[] w:=by
   rintro x ⟨p,rfl⟩
   cases p<;>simp[Builtin.firstCells,loadCells,loadCellsFrom]
  rcases zV.2 with ⟨q,rfl,rfl⟩|⟨g,cap,cur,rfl,_,_,Uc,_⟩
  ·cases q<;>simp[Builtin.append_,bC hT,run_sizeOf w By,Builtin.lenOf,hfc _ ⟨p,rfl⟩,storeCells]
  ·simp[Builtin.append_,bC hT,run_sizeOf w By,Builtin.lenOf,hfc _ ⟨p,rfl⟩,Uc,storeCells]
 ·have gR:news≠[]:=by
   intro h;subst h;have:0<m * ei.size:=Nat.mul_pos (by omega) Ai
   simp at hl
   omega
  obtain⟨ad,rfl,Yi⟩:=Y3 gR
  have hlen:(xs++news).length=(n+m) * ei.size:=by rw[List.length_append,zV.1,hl,Nat.add_mul]
  have grow:∀(ga:Addr) (cap:Nat),cap<n+m→(∀(j:Nat) (u:Value),xs[j]? = some u→w.cell? (ga.add j)=some u)→∃v' w',(Builtin.append_ #[T,T] ty #[.slice (some ga) n cap,.slice (some ad) m c]).run P w=.ok v' w' ∧
   oD w' base e ei.size v' (n+m) (xs++news)∧w.grownBy w' none∧∀b,dI v'=some b→w.heap.size≤b:=by
   intro ga cap l5 holds;have hr:=run_append_grow (P:=P) w T ty e ei ez hT By BB ga n cap xs zV.1 holds ad m c news hl Yi (by omega) (by simp only[maxLen] at h63;omega) (growslice_fits (by omega) hb)
   have hge:=grownCap_ge w (n+m) cap e
   have aHf:=grownCap_le_maxLen w (n+m) cap e h63
   refine⟨_,_,hr,⟨hlen,.inr ⟨w.heap.size,_,_,rfl,xA,heap_alloc_new w.drew _,hge,aHf, ?_, ?_,by omega⟩⟩,⟨rfl,rfl,rfl,by simp,fun k hk _=>heap_alloc_old w.drew _ hk⟩,fun b hb=>?_⟩
   ·simp only[Array.size_append,List.size_toArray,size_zeroCells,AU,zV.1,hl,← Nat.add_mul];congr 1
    omega
   ·simp only[Array.toList_append,List.append_assoc];rw[← List.append_assoc,← hlen];exact List.take_left
   ·rw[kH (by omega)] at hb
    simp at hb
    omega
  rcases zV.2 with ⟨q,rfl,rfl⟩|⟨g,cap,cur,rfl,hbg,hg,Uc,E1,HR,htake,qQ⟩
  ·have hx:xs=[]:=List.eq_nil_of_length_eq_zero (by simpa using zV.1)
   cases q with
   | none =>
     subst hx;obtain⟨v',w',hr,ho,hgr,_⟩:=run_append_own (P:=P) w w.heap.size T ty e ei ez ei.size ei.bytes hT By BB rfl rfl AU Ai (.slice none 0 0) 0 [] (World.ownsRow_nil w _ e ei.size)
      ad m c news hl Yi h1 (by simpa using h63) (by simpa using hb) (Nat.le_refl _)
     exact⟨v',w',hr,yZ (Gp ho) xA,hgr,fun b hb=>.inr ((Cq (Gp ho) b hb).1)⟩
   | some ga =>
     obtain⟨v',w',hr,ho,hgr,oB⟩:=grow ga 0 (by omega) (by rw[hx];simp)
     exact⟨v',w',hr,ho,by rw[pV];exact hgr,fun b hb=>.inr (oB b hb)⟩
  ·by_cases l5:n+m≤cap
   ·have aC4:n * ei.size+news.length≤cur.size:=by rw[hl,HR,← Nat.add_mul];exact Nat.mul_le_mul_right _ l5
    have hr:=run_append_room (P:=P) w T ty e ei hT By g n cap cur hg ad m c news hl Yi h1 l5 aC4
    refine⟨_,_,hr,⟨hlen,.inr ⟨g,cap,_,rfl,hbg,setRow_heap w g cur _ e _ hg,l5,E1, ?_, ?_,qQ⟩⟩,⟨rfl,rfl,rfl,by simp,fun k _ hk=>setRow_other w g k _ (fun e=>hk (by rw[kH qQ,e]))⟩,fun b hb=>.inl (by rw[kH qQ] at hb ⊢;exact hb)⟩
    ·simp only[List.size_toArray,List.length_append,List.length_take,List.length_drop,Array.length_toList];omega
    ·rw[htake,← hlen];exact List.take_left
   ·have holds:∀(j:Nat) (u:Value),xs[j]? = some u→w.cell? ((⟨g,0,none⟩:Addr).add j)=some u:=fun j u hu=>by
     rw[lR,Nat.zero_add,cell_of_row w g j cur e (0,0) hg];rw[← htake,List.getElem?_take] at hu;split at hu
     ·simpa using hu
     ·cases hu
    obtain⟨v',w',hr,ho,hgr,oB⟩:=grow ⟨g,0,none⟩ cap (by omega) holds
    exact⟨v',w',hr,ho,⟨hgr.os,hgr.tape,hgr.output,hgr.size,fun k hk _=>hgr.block k hk (by simp)⟩,fun b hb=>.inr (oB b hb)⟩
theorem lJ (dst:Option Nat) (v:AV) (d:Nat) (x:nU):rT.apply { dst:=dst,val:=v,new:=some (d,[x])} st=(st.new d x).put dst v:=by
 simp only[rT.apply,Vw]
theorem Rl (dst:Option Nat) (v:AV) (s g d:Nat) (z:Option nU) (x:nU):rT.apply { dst:=dst,val:=v,dQ:=some (s,g,z),new:=some (d,[x])} st=((st.jB s g z).new d x).put dst v:=by
 simp only[rT.apply,Vw]
theorem HV (S:kU F h0 w0 nt ρ st a w) {T ty d:Nat} {s x:AV} {u:Option (Nat × Nat)} {r:nU} {sv xv:Value} (hd:d<nt) (h:dH P st T s x=some (u,r))
 (hs:cY (ctx h0 w0 ρ st w) s sv) (hx:cY (ctx h0 w0 ρ st w) x xv) :
 ∃v w' oC,(Builtin.append_ #[T,T] ty #[sv,xv]).run P w=.ok v w' ∧
  kU F h0 w0 nt oC (rT.apply { dst:=some d,val:=.own d (st.aQ d),dQ:=u.map fun p=>(p.1,p.2,none),new:=some (d,[r])} st) (a.put (some d) v) w':=by
 unfold dH at h;cases SW:dS P T with
 | none=>simp[SW] at h
 | some t =>
   obtain⟨e,sz,by_⟩:=t
   simp only[SW] at h;obtain⟨ei,ez,hT,By,BB,rfl,AU,rfl,Ai⟩:=kD SW
   cases hv:aW st x with
   | none=>simp[hv] at h
   | some mn =>
     obtain⟨m,news⟩:=mn
     simp only[hv] at h;split at h
     ·rename_i hlen;obtain⟨p,c,rfl,Y3⟩:=sN S hv hx
      have Y4:∃nv:List Value,gC (ctx h0 w0 ρ st w) news nv∧(nv≠[]→∃ad,p=some ad∧∀(j:Nat) (u:Value),nv[j]? = some u→w.cell? (ad.add j)=some u):=by
       by_cases gR:news=[]
       ·subst gR;exact⟨[],.nil _,fun h=>absurd rfl h⟩
       ·obtain⟨b,off,arr,T',fr,hp,hb,hc⟩:=Y3 gR
        refine⟨_,hc,fun _=>⟨_,hp,fun j u hu=>?_⟩⟩
        rw[lR,cell_of_row w b (off+j) arr T' fr hb];rw[List.getElem?_take] at hu;split at hu
        ·rw[List.getElem?_drop] at hu;simpa using hu
        ·cases hu
      obtain⟨nv,Uc,oU⟩:=Y4
      have SQ:nv.length=m * ei.size:=by rw[← Uc.len,hlen]
      have Qh:∀u∈nv,u.oneCell'=true:=fun u hu=>by
       obtain⟨j,hj,rfl⟩:=List.getElem_of_mem hu
       exact Uc.one j _ (by simp)
      split at h
      ·split at h
       ·rename_i hc;simp only[Option.some.injEq,Prod.mk.injEq] at h;obtain⟨rfl,rfl⟩:=h
        have:=iO hs
        subst this;obtain⟨v',w',hr,ho,hg,YV⟩:=Ey (P:=P) (w:=w) (base:=w.heap.size) (ty:=ty) hT By BB AU Ai (Nat.le_refl _) (Gp (World.ownsRow_nil w _ e ei.size)) (p:=p) (c:=c) SQ oU Qh (by simpa using hc.2) (by simpa using hc.1)
        simp only[Nat.zero_add,List.nil_append] at ho;obtain⟨oC,S'⟩:=S.newRow d hd hg e ei.size m news nv v' ho Uc
        exact⟨v',w',oC,hr,by rw[Option.map_none,lJ];exact S'⟩
       ·cases h
      ·rename_i s' g'
       cases he:st.heap s' g' with
       | none=>simp[he] at h
       | some e' =>
         cases e' with
         | row e2 sz2 n cs =>
           simp only[he] at h;split at h
           ·rename_i hc;obtain⟨rfl,rfl,hb,h63⟩:=hc
            simp only[Option.some.injEq,Prod.mk.injEq] at h;obtain⟨rfl,rfl⟩:=h
            obtain⟨_,_,xs,ho,HR⟩:=S.sM s' g' _ he
            cases hs with
            | own _ _ hg1 ho1 =>
              obtain⟨v',w',hr,ho',hg,YV⟩:=Ey (P:=P) (w:=w) (ty:=ty) hT By BB AU Ai S.ext.size ho (p:=p) (c:=c) SQ oU Qh h63 hb
              obtain⟨S',k,pA⟩:=S.M8 he hg d (.row e2 ei.size (n+m) (cs++news)) v' (tE ho') YV (fun C k=>⟨xs++nv,ho',(HR.app Uc).le k⟩)
              have bA:st.aQ d<(ctx h0 w0 (tW ρ d (st.aQ d) v') ((st.jB s' g' none).new d (.row e2 ei.size (n+m) (cs++news))) w').aQ d:=by simp[ctx,St.new,St.jB]
              have lB:(ctx h0 w0 (tW ρ d (st.aQ d) v') ((st.jB s' g' none).new d (.row e2 ei.size (n+m) (cs++news))) w').ρ d (st.aQ d)=v':=pA
              have:=cY.own (C:=ctx h0 w0 (tW ρ d (st.aQ d) v') ((st.jB s' g' none).new d (.row e2 ei.size (n+m) (cs++news))) w') d (st.aQ d) bA (by rw[lB];exact tE ho')
              rw[lB] at this;have hS:=S'.put (some d) (fun t ht=>by cases ht;exact hd) this
              exact⟨v',w',_,hr,by rw[Option.map_some,Rl];exact hS⟩
           ·cases h
         | _=>simp[he] at h
      ·rename_i n cs;split at h
       ·rename_i hc;obtain⟨c1,c2,c3,c4⟩:=hc
        simp only[Option.some.injEq,Prod.mk.injEq] at h;obtain⟨rfl,rfl⟩:=h
        have main:∀(q:Option Addr) (ys:List Value),sv=.slice q n n→gC (ctx h0 w0 ρ st w) cs ys→(ys≠[]→∃ad,q=some ad∧∀(j:Nat) (u:Value),ys[j]? = some u→w.cell? (ad.add j)=some u) →
         ∃v' w',(Builtin.append_ #[T,T] ty #[sv,.slice p m c]).run P w=.ok v' w'∧oD w' w.heap.size e ei.size v' (n+m) (ys++nv)∧w.grownBy w' none:=by
         rintro q ys rfl Ud hcell'
         have hyl:ys.length=n * ei.size:=by rw[← Ud.len,c1]
         by_cases hm:m=0
         ·have hn0:n=0:=by omega
          subst hm;subst hn0;have hy0:ys=[]:=List.eq_nil_of_length_eq_zero (by simpa using hyl)
          have hn0:nv=[]:=List.eq_nil_of_length_eq_zero (by simpa using SQ)
          subst hy0;subst hn0;obtain⟨v',w',hr,ho,hg,_⟩:=Ey (P:=P) (w:=w) (base:=w.heap.size) (ty:=ty) (v:=.slice q 0 0) (n:=0) (xs:=[]) hT By BB AU Ai (Nat.le_refl _) ⟨by simp,.inl ⟨q,rfl,rfl⟩⟩ (p:=p) (c:=c) SQ oU (by simp) c4 c3
          rw[pV] at hg;exact⟨v',w',hr,ho,hg⟩
         ·have gR:nv≠[]:=by
           intro h;rw[h] at SQ;have:0<m * ei.size:=Nat.mul_pos (by omega) Ai
           simp at SQ
           omega
          obtain⟨ad,rfl,Yi⟩:=oU gR
          have hlen':(ys++nv).length=(n+m) * ei.size:=by rw[List.length_append,hyl,SQ,Nat.add_mul]
          cases q with
          | none =>
            have hy0:ys=[]:=by
             by_cases h:ys=[]
             ·exact h
             ·obtain⟨ad,h1,_⟩:=hcell' h
              cases h1
            subst hy0;have hn0:n=0:=by
             rcases Nat.eq_zero_or_pos n with h|h
             ·exact h
             ·have:=Nat.mul_pos h Ai
              simp at hyl
              omega
            subst hn0;obtain⟨v',w',hr,ho,hg,_⟩:=Ey (P:=P) (w:=w) (base:=w.heap.size) (ty:=ty) (v:=.slice none 0 0) (n:=0) (xs:=[]) hT By BB AU Ai (Nat.le_refl _) ⟨by simp,.inl ⟨none,rfl,rfl⟩⟩ (p:=some ad) (c:=c) SQ oU Qh c4 c3
            rw[pV] at hg;exact⟨v',w',hr,ho,hg⟩
          | some ga =>
            have holds:∀(j:Nat) (u:Value),ys[j]? = some u→w.cell? (ga.add j)=some u:=fun j u hu=>by
             have hne':ys≠[]:=by intro h;rw[h] at hu;simp at hu
             obtain⟨ad',h1,h2⟩:=hcell' hne'
             cases h1
             exact h2 j u hu
            have hr:=run_append_grow (P:=P) w T ty e ei ez hT By BB ga n n ys hyl holds ad m c nv SQ Yi (by omega) (by simp only[maxLen] at c4;omega) (growslice_fits (by omega) c3)
            have hge:=grownCap_ge w (n+m) n e
            have aHf:=grownCap_le_maxLen w (n+m) n e c4
            refine⟨_,_,hr,⟨hlen',.inr ⟨w.heap.size,_,_,rfl,Nat.le_refl _,heap_alloc_new w.drew _,hge,aHf, ?_, ?_,by omega⟩⟩,⟨rfl,rfl,rfl,by simp,fun k hk _=>heap_alloc_old w.drew _ hk⟩⟩
            ·simp only[Array.size_append,List.size_toArray,size_zeroCells,AU,hyl,SQ,← Nat.add_mul];congr 1
             omega
            ·simp only[Array.toList_append,List.append_assoc];rw[← List.append_assoc,← hlen'];exact List.take_left
        have fin:∀(ys:List Value),gC (ctx h0 w0 ρ st w) cs ys→(∃v' w',(Builtin.append_ #[T,T] ty #[sv,.slice p m c]).run P w=.ok v' w'∧oD w' w.heap.size e ei.size v' (n+m) (ys++nv)∧w.grownBy w' none) →
         ∃v w' oC,(Builtin.append_ #[T,T] ty #[sv,.slice p m c]).run P w=.ok v w' ∧
          kU F h0 w0 nt oC (rT.apply { dst:=some d,val:=.own d (st.aQ d),dQ:=(none:Option (Nat × Nat)).map fun p=>(p.1,p.2,none),new:=some (d,[.row e ei.size (n+m) (cs++news)])} st) (a.put (some d) v) w':=by
         rintro ys Ud ⟨v',w',hr,ho,hg⟩
         obtain⟨oC,S'⟩:=S.newRow d hd hg e ei.size (n+m) (cs++news) (ys++nv) v' ho (Ud.app Uc)
         exact⟨v',w',oC,hr,by rw[Option.map_none,lJ];exact S'⟩
        cases hs with
        | cl0 n q=>exact fin [] (.nil _) (main q [] rfl (.nil _) (by simp))
        | cl n cs b off arr T' fr hb hle hr DM =>
          have zD:gC (ctx h0 w0 ρ st w) cs ((arr.toList.drop off).take cs.length):=by
           refine⟨by simp;omega,fun i x y hx hy=>?_,fun i y hy=>?_⟩
           ·have hi:=(List.getElem?_eq_some_iff.1 hx).1
            rw[List.getElem?_take,if_pos hi,List.getElem?_drop] at hy;exact hr i x y hx (by simpa using hy)
           ·rw[List.getElem?_take] at hy;split at hy
            ·rename_i hi;rw[List.getElem?_drop] at hy;exact DM i y hi (by simpa using hy)
            ·cases hy
          refine fin _ zD (main _ _ rfl zD fun _=>⟨⟨b,off,none⟩,rfl,fun j u hu=>?_⟩)
          rw[lR,cell_of_row w b (off+j) arr T' fr hb.1];rw[List.getElem?_take] at hu;split at hu
          ·rw[List.getElem?_drop] at hu;simpa using hu
          ·cases hu
       ·cases h
      ·cases h
     ·cases h
theorem BR (S:kU F h0 w0 nt ρ st a w) {T ty:Nat} {s x:AV} {u:Nat × Nat × nU × Nat} {sv xv:Value} (h:nX P st T s x=some u)
 (hs:cY (ctx h0 w0 ρ st w) s sv) (hx:cY (ctx h0 w0 ρ st w) x xv) :
 ∃v w',(Builtin.append_ #[T,T] ty #[sv,xv]).run P w=.ok v w'∧kU F h0 w0 nt ρ (st.jB u.1 u.2.1 (some u.2.2.1)) a w' ∧
  cY (ctx h0 w0 ρ (st.jB u.1 u.2.1 (some u.2.2.1)) w') (.vw u.1 u.2.1 0 u.2.2.2) v:=by
 unfold nX at h;split at h
 ·rename_i e sz by_ m news s' g' k SW hv
  obtain⟨ei,ez,hT,By,BB,rfl,AU,rfl,Ai⟩:=kD SW
  cases he:st.heap s' g' with
  | none=>simp[he] at h
  | some en =>
    cases en with
    | row e' tN n cs =>
      simp only[he] at h;split at h
      ·rename_i hc;obtain⟨rfl,rfl,hlen,aC4⟩:=hc
       simp only[Option.some.injEq] at h;subst h;obtain⟨p,c,rfl,Y3⟩:=sN S hv hx
       have Y4:∃nv:List Value,gC (ctx h0 w0 ρ st w) news nv∧(nv≠[]→∃ad,p=some ad∧∀(j:Nat) (u:Value),nv[j]? = some u→w.cell? (ad.add j)=some u):=by
        by_cases gR:news=[]
        ·subst gR;exact⟨[],.nil _,fun h=>absurd rfl h⟩
        ·obtain⟨b,off,arr,T',fr,hp,hb,hc⟩:=Y3 gR
         refine⟨_,hc,fun _=>⟨_,hp,fun j u hu=>?_⟩⟩
         rw[lR,cell_of_row w b (off+j) arr T' fr hb];rw[List.getElem?_take] at hu;split at hu
         ·rw[List.getElem?_drop] at hu;simpa using hu
         ·cases hu
       obtain⟨nv,Uc,oU⟩:=Y4
       have SQ:nv.length=m * ei.size:=by rw[← Uc.len,hlen]
       have Qh:∀u∈nv,u.oneCell'=true:=fun u hu=>by
        obtain⟨j,hj,rfl⟩:=List.getElem_of_mem hu
        exact Uc.one j _ (by simp)
       obtain⟨_,_,xs,ho,zD⟩:=S.sM s' g' _ he
       cases hs with
       | vw _ _ _ _ b cap hg hb mV yY =>
         have oB:dI (ρ s' g')=some b:=hb
         rcases ho.2 with ⟨q,lB,hn⟩|⟨b',BA,cur,lB,xA,hh,E5,E1,HR,ht,qQ⟩
         ·rw[lB,pV] at oB;cases oB
         ·have xH:b'=b:=by rw[lB,kH qQ] at oB;simpa using oB
          subst xH;have hcc:cap=BA:=yY rfl _ _ _ lB
          subst hcc;have E0:(k+m) * ei.size≤n * ei.size:=Nat.mul_le_mul_right _ aC4
          have hnn:n * ei.size≤cap * ei.size:=Nat.mul_le_mul_right _ E5
          rw[Nat.add_mul] at E0;have hcl':cur.toList.length=cur.size:=rfl
          have qE:(Builtin.append_ #[T,T] ty #[.slice (some ⟨b',0,none⟩) k cap,.slice p m c]).run P w=.ok (.slice (some ⟨b',0,none⟩) (k+m) cap) (w.setRow b' (cur.toList.take (k * ei.size)++nv++cur.toList.drop (k * ei.size+nv.length)).toArray):=by
           by_cases gR:nv=[]
           ·have hm:m=0:=by
             rw[gR] at SQ;rcases Nat.eq_zero_or_pos m with h|h
             ·exact h
             ·have:=Nat.mul_pos h Ai
              simp at SQ
              omega
            subst hm;have hfc:∀(x:Value),(∃p,x=.slice p 0 c)→(Builtin.firstCells ei.size 0 x).run P w=.ok #[] w:=by
             rintro x ⟨p,rfl⟩
             cases p<;>simp[Builtin.firstCells,loadCells,loadCellsFrom]
            have e0:(cur.toList.take (k * ei.size)++nv++cur.toList.drop (k * ei.size+nv.length)).toArray=cur:=by
             rw[gR];simp
            rw[e0,setRow_self w b' cur e' (0,0) hh];have hkc:k≤cap:=by omega
            simp[Builtin.append_,bC hT,run_sizeOf w By,Builtin.lenOf,hfc _ ⟨p,rfl⟩,storeCells,hkc]
           ·obtain⟨ad,rfl,Yi⟩:=oU gR
            exact run_append_room (P:=P) w T ty e' ei hT By b' k cap cur hh ad m c nv SQ Yi Qh (by omega) (by omega)
          have hxl:=ho.1
          have hcsl:=zD.len
          have S':=S.store (e':=.row e' ei.size n (cs.take (k * ei.size)++news++cs.drop (k * ei.size+m * ei.size))) (w':=w.setRow b' (cur.toList.take (k * ei.size)++nv++cur.toList.drop (k * ei.size+nv.length)).toArray) he oB ⟨rfl,rfl,rfl,by simp,fun j _ hj=>setRow_other w b' j _ (fun e=>hj (by rw[e]))⟩ (fun C kC=>by
           refine⟨xs.take (k * ei.size)++nv++xs.drop (k * ei.size+m * ei.size),⟨by simp;omega,.inr ⟨b',cap,_,lB,xA,setRow_heap w b' cur _ e' (0,0) hh,E5,E1,by simp;omega, ?_,qQ⟩⟩,(((zD.take _).app Uc).app (zD.drop _)).le kC⟩
           simp only
           rw[← ht,SQ];have l1:(cur.toList.take (k * ei.size)++nv).length=k * ei.size+m * ei.size:=by simp;omega
           rw[List.take_append,l1,List.take_of_length_le (by omega),List.drop_take,List.take_take,Nat.min_eq_left (by omega)])
          exact⟨_,_,qE,S',.vw s' g' 0 _ b' cap hg hb (by show k+m≤cap;omega) (fun _=>yY rfl)⟩
      ·cases h
    | _=>simp[he] at h
 ·cases h
theorem OQ (S:kU F h0 w0 nt ρ st a w) {T ty:Nat} {x:AV} {u:Option (Nat × Nat × nU)} {xv:Value} (h:sA P st T x=some u) (hx:cY (ctx h0 w0 ρ st w) x xv) :
 ∃w',(Builtin.clear_ #[T] ty #[xv]).run P w=.ok (.tuple #[]) w'∧kU F h0 w0 nt ρ (match u with|some p=>st.jB p.1 p.2.1 (some p.2.2)|none=>st) a w':=by
 unfold sA at h;split at h
 ·rename_i e sz by_ s g o k SW _;obtain⟨ei,ez,hT,By,BB,rfl,AU,rfl,Ai⟩:=kD SW
  split at h
  ·rename_i z e' tN n cs hz he
   split at h
   ·rename_i hc;obtain⟨rfl,rfl,aC4⟩:=hc
    simp only[Option.some.injEq] at h;subst h;obtain⟨i',zv,Cs,LA,rfl,N0⟩:=zB hz
    rw[By] at Cs
    cases Cs
    rw[BB] at LA;cases LA
    obtain⟨_,_,xs,ho,zD⟩:=S.sM s g _ he
    cases hx with
    | vw _ _ _ _ b cap hg hb mV yY =>
      have oB:dI (ρ s g)=some b:=hb
      rcases ho.2 with ⟨q,lB,hn⟩|⟨b',BA,cur,lB,xA,hh,E5,E1,HR,ht,qQ⟩
      ·rw[lB,pV] at oB;cases oB
      ·have xH:b'=b:=by rw[lB,kH qQ] at oB;simpa using oB
       subst xH;have hxl:=ho.1
       have hcsl:=zD.len
       have hnn:n * ei.size≤BA * ei.size:=Nat.mul_le_mul_right _ E5
       have hcl':cur.toList.length=cur.size:=rfl
       have VR:(Builtin.zeroCells ez.cells k).toList=(List.range k).flatMap fun _=>ez.cells.toList:=by
        unfold Builtin.zeroCells;rw[← Hu]
       have hzl:((List.range k).flatMap fun _=>ez.cells.toList).length=k * ei.size:=by
        rw[← VR,Array.length_toList,size_zeroCells,AU]
       have hz1':∀v∈(List.range k).flatMap fun _=>ez.cells.toList,v.oneCell'=true:=fun v hv=>by
        obtain⟨_,_,hv⟩:=List.mem_flatMap.1 hv
        exact N0 v hv
       have yB:=run_storeCells_at P b' o e' ((List.range k).flatMap fun _=>ez.cells.toList) 0 cur w hh (by rw[hzl];omega) hz1'
       simp only[Nat.add_zero] at yB;have S':=S.store (e':=.row e' ei.size n (cs.take o++((List.range k).flatMap fun _=>ez.cells.toList.map .v)++cs.drop (o+k * ei.size))) (w':=w.setRow b' (cur.toList.take o++((List.range k).flatMap fun _=>ez.cells.toList)++cur.toList.drop (o+((List.range k).flatMap fun _=>ez.cells.toList).length)).toArray) he oB ⟨rfl,rfl,rfl,by simp,fun j _ hj=>setRow_other w b' j _ (fun e=>hj (by rw[e]))⟩ (fun C kC=>by
        refine⟨xs.take o++((List.range k).flatMap fun _=>ez.cells.toList)++xs.drop (o+k * ei.size),⟨by rw[List.length_append,List.length_append,hzl];simp;omega,.inr ⟨b',BA,_,lB,xA,setRow_heap w b' cur _ e' (0,0) hh,E5,E1,by rw[List.size_toArray,List.length_append,List.length_append,hzl];simp;omega, ?_,qQ⟩⟩,(((zD.take _).le kC).app (Jk N0 k)).app ((zD.drop _).le kC)⟩
        simp only
        rw[← ht,hzl];have l1:(cur.toList.take o++((List.range k).flatMap fun _=>ez.cells.toList)).length=o+k * ei.size:=by rw[List.length_append,hzl];simp;omega
        rw[List.take_append,l1,List.take_of_length_le (by omega),List.drop_take,List.take_take,Nat.min_eq_left (by omega)])
       refine⟨_, ?_,S'⟩
       have hzv:(zeroValue e').run P w=.ok ez w:=by simp[zeroValue,typeInfo,By,BB]
       cases k with
       | zero =>
         have e0:(cur.toList.take o++((List.range 0).flatMap fun _=>ez.cells.toList)++cur.toList.drop (o+((List.range 0).flatMap fun _=>ez.cells.toList).length)).toArray=cur:=by simp
         rw[e0,setRow_self w b' cur e' (0,0) hh];simp[Builtin.clear_,bC hT]
       | succ k =>
         have hst2:(storeCells ⟨b',o,none⟩ (Builtin.zeroCells ez.cells (k+1)).toList).run P w=.ok () (w.setRow b' (cur.toList.take o++((List.range (k+1)).flatMap fun _=>ez.cells.toList)++cur.toList.drop (o+((List.range (k+1)).flatMap fun _=>ez.cells.toList).length)).toArray):=by rw[VR];exact yB
         obtain⟨W,hW⟩:∃W,w.setRow b' (cur.toList.take o++((List.range (k+1)).flatMap fun _=>ez.cells.toList)++cur.toList.drop (o+((List.range (k+1)).flatMap fun _=>ez.cells.toList).length)).toArray=W:=⟨_,rfl⟩
         rw[hW] at hst2;rw[hW];simp[Builtin.clear_,bC hT,hzv,hst2]
   ·cases h
  ·cases h
 ·rename_i t cs SW _;simp only[Option.some.injEq] at h;subst h;obtain⟨e,sz,by_⟩:=t
  obtain⟨ei,ez,hT,_⟩:=kD SW
  refine⟨w, ?_,S⟩
  cases hx with
  | KW n cap p mV=>cases p<;>simp[Builtin.clear_,bC hT]
  | sl n cs b off cap arr T fr mV hb hle hr h1=>simp[Builtin.clear_,bC hT]
 ·rename_i t SW _;simp only[Option.some.injEq] at h;subst h;obtain⟨e,sz,by_⟩:=t
  obtain⟨ei,ez,hT,_⟩:=kD SW
  have:=iO hx
  subst this;exact⟨w,by simp[Builtin.clear_,bC hT],S⟩
 ·cases h
theorem VS {C:Ctx} {x:AV} {v:Value} {g:Nat} {mF:List AV} (h:FZ x=some (g,mF)) (hr:cY C x v):∃cv,v=.func (.func g) #[] cv∧lN C mF cv.toList:=by
 unfold FZ at h;split at h
 ·split at h
  ·rename_i hc;obtain⟨rfl,rfl⟩:=hc
   simp only[Option.some.injEq,Prod.mk.injEq] at h;obtain⟨rfl,rfl⟩:=h
   have:=iO hr
   subst this;exact⟨#[],rfl,.nil C⟩
  ·cases h
 ·simp only[Option.some.injEq,Prod.mk.injEq] at h;obtain⟨rfl,rfl⟩:=h
  cases hr with
  | rS f cs a hl hr=>exact⟨a,rfl,by simpa using hl,fun i x y hx hy=>hr i x y hx (by simpa using hy)⟩
 ·cases h
variable [Ext]
theorem BS (S:kU F h0 w0 nt ρ st a w) {call:Nat→List AV→Option AV} (kJ:rC P call) {o:Oper} {c:Call} (qH:o.op=.call c) {e:rT}
 (h:iT P call c o.dst st=some e) (hd:∀d,o.dst=some d→d<nt)
 (hK:∀oC a' w',kU F h0 w0 nt oC (e.apply st) a' w'→K a' w'):o.wp P a w K Q:=by
 have uX:lN (ctx h0 w0 ρ st w) (c.args.toList.map st.ev) (c.args.toList.map a.eval):=lN.map _ _ _ fun p _=>S.ev p
 unfold iT at h;split at h
 ·rename_i f hf;have fin:∀g cv,a.eval f=.func (.func g) #[] cv→(Hr P g∧Calls P g (c.args.map a.eval++cv) w fun en w'=>∃v,en=.returned v∧K (a.put o.dst v) w')→o.wp P a w K Q:=by
   rintro g cv hv ⟨⟨fn,aHg,Y5,Y6⟩,VT⟩
   have hnb:fn.body.isNone=false:=by
    cases hb:fn.body<;>simp[hb] at Y6 ⊢
   have Qh : ¬ fn.name = "runtime.NumGoroutine" := by simpa using Y5
   have hn2:¬fn.body=none:=by intro h;simp[h] at hnb
   have qE:(execOp a.eval o).run P w=.ok (.enter g (c.args.map a.eval++cv)) w:=by
    simp[execOp,qH,resolve,hf,hv,Deferred.ofValue,invoke,callFunc,aHg,Qh,hn2]
   unfold Oper.wp;rw[qE,Oper.upon_enter];refine VT.mono ?_
   rintro en w' ⟨v,rfl,hk⟩
   exact hk
  have gen:∀g mF,FZ (st.ev f)=some (g,mF)→aN call g (c.args.toList.map st.ev++mF) st o.dst=some e→o.wp P a w K Q:=by
   intro g mF hfn h;obtain⟨cv,hv,hcaps⟩:=VS hfn (S.ev f)
   have gB:lN (ctx h0 w0 ρ st w) (c.args.toList.map st.ev++mF) (c.args.map a.eval++cv).toList:=by
    simpa using uX.app hcaps
   exact fin g cv hv (Ew S kJ h gB hd hK)
  unfold nY at h;split at h
  ·rename_i g;split at h
   ·refine fin g #[] rfl ?_
    exact HT S kJ h (by simpa using uX) hd hK
   ·split at h
    ·refine fin g #[] rfl ?_
     exact BP S kJ h (by simpa using uX) hd hK
    ·exact gen g [] rfl (by simpa using h)
  ·split at h
   ·rename_i g mF hfn;exact gen g mF hfn h
   ·cases h
 ·rename_i hf;split at h
  ·rename_i x T hx hT;cases hs:dS P T with
   | none=>simp[hs] at h
   | some t =>
     cases hv:aW st (st.ev x) with
     | none=>simp[hs,hv] at h
     | some nc =>
       obtain⟨n,cs⟩:=nc
       simp only[hs,hv,Option.some.injEq] at h;subst h;obtain⟨p,cap,Yj,_⟩:=sN S hv (S.ev x)
       obtain⟨e,sz,by_⟩:=t
       obtain⟨ei,ez,hu,_⟩:=kD hs
       have ha:c.args=#[x]:=by apply Array.ext';simpa using hx
       have ht:c.argTypes=#[T]:=by apply Array.ext';simpa using hT
       refine upon_value (v:=.int .i64 n) ?_ (hK ρ _ w (S.put o.dst hd (.v _)))
       simp[execOp,qH,resolve,hf,ha,ht,invoke,builtin,Builtin.len_,Yj,bC hu,goInt]
  ·cases h
 ·rename_i hf;split at h
  ·rename_i x y hx;split at h
   ·rename_i k p k' q h1 h2
    simp only[Option.some.injEq] at h;subst h;have e1:=S.ev x
    rw[h1] at e1;have e1:=iO e1
    have e2:=S.ev y
    rw[h2] at e2;have e2:=iO e2
    have ha:c.args=#[x,y]:=by apply Array.ext';simpa using hx
    refine upon_value (v:=.int k (if q<p then q else p)) ?_ (hK ρ _ w (S.put o.dst hd (.v _)))
    simp[execOp,qH,resolve,hf,ha,invoke,builtin,Builtin.min_,Builtin.min2,e1,e2]
   ·cases h
  ·cases h
 ·rename_i hf;split at h
  ·rename_i x y hx;split at h
   ·rename_i k p k' q h1 h2
    simp only[Option.some.injEq] at h;subst h;have e1:=S.ev x
    rw[h1] at e1;have e1:=iO e1
    have e2:=S.ev y
    rw[h2] at e2;have e2:=iO e2
    have ha:c.args=#[x,y]:=by apply Array.ext';simpa using hx
    refine upon_value (v:=.int k (if q > p then q else p)) ?_ (hK ρ _ w (S.put o.dst hd (.v _)))
    simp[execOp,qH,resolve,hf,ha,invoke,builtin,Builtin.max_,Builtin.max2,e1,e2]
   ·cases h
  ·cases h
 ·rename_i hf;cases lE:o.dst with
  | none=>simp[lE,cS] at h
  | some d =>
  simp only[lE,cS] at h;split at h
  ·rename_i s x T T' hx hT
   split at h
   ·rename_i hTT;subst hTT;split at h
    ·cases nH:nX P st T (st.ev s) (st.ev x) with
     | none=>simp[nH] at h
     | some u =>
     simp only[nH,Option.map_some,Option.some.injEq] at h;subst h;obtain⟨v,w',hr,S',hv⟩:=BR (ty:=o.type) S nH (S.ev s) (S.ev x)
     have ha:c.args=#[s,x]:=by apply Array.ext';simpa using hx
     have ht:c.argTypes=#[T,T]:=by apply Array.ext';simpa using hT
     rw[lE] at hd;have hk:=hK ρ _ w' (S'.put (some d) hd hv)
     unfold Oper.wp;simp only[execOp,qH,resolve,hf,ha,ht,invoke,builtin];simp[hr]
     unfold Oper.upon;rw[lE];exact hk
    split at h
    ·rename_i hpa;obtain⟨_,hs0,SW,hv'⟩:=hpa
     obtain⟨⟨_,cs⟩,hv,hv0⟩:=Option.map_eq_some_iff.1 hv'
     simp only at hv0
     subst hv0;simp only[Option.some.injEq] at h;subst h;have e1:=S.ev s
     rw[hs0] at e1;have e1:=iO e1
     obtain⟨q,c',hxv,_⟩:=sN S hv (S.ev x)
     cases hsi:dS P T with
     | none=>rw[hsi] at SW;cases SW
     | some t =>
     obtain⟨e,sz,by_⟩:=t
     obtain⟨ei,ez,hT',By,_⟩:=kD hsi
     have hz:∀w:World,(Builtin.firstCells ei.size 0 (.slice q 0 c')).run P w=.ok ([]:List Value).toArray w:=fun w=>by cases q<;>simp[Builtin.firstCells,loadCells,loadCellsFrom]
     have hr:(Builtin.append_ #[T,T] o.type #[.slice none 0 0,.slice q 0 c']).run P w=.ok (.slice none 0 0) w:=run_append_nothing w T T o.type e ei hT' By none 0 0 (Nat.le_refl _) _ ⟨.inl ⟨e,hT'⟩,fun w'=>by simp[Builtin.lenOf],hz _,hz _,by simp,by simp⟩
     have ha:c.args=#[s,x]:=by apply Array.ext';simpa using hx
     have ht:c.argTypes=#[T,T]:=by apply Array.ext';simpa using hT
     rw[lE] at hd;refine upon_value (v:=.slice none 0 0) ?_ (by rw[lE];exact hK ρ _ w (S.put (some d) hd (.v _)))
     simp[execOp,qH,resolve,hf,ha,ht,invoke,builtin,e1,hxv,hr]
    cases nH:dH P st T (st.ev s) (st.ev x) with
    | none=>simp[nH] at h
    | some ur =>
      obtain⟨u,r⟩:=ur
      simp only[nH,Option.some.injEq] at h;subst h;obtain⟨v,w',oC,hr,S'⟩:=HV (ty:=o.type) S (hd d lE) nH (S.ev s) (S.ev x)
      have ha:c.args=#[s,x]:=by apply Array.ext';simpa using hx
      have ht:c.argTypes=#[T,T]:=by apply Array.ext';simpa using hT
      have hk:=hK oC _ w' S'
      unfold Oper.wp;simp only[execOp,qH,resolve,hf,ha,ht,invoke,builtin];simp[hr]
      unfold Oper.upon;rw[lE];exact hk
   ·cases h
  ·cases h
 ·rename_i hf;split at h
  ·rename_i x T hx hT;cases nH:sA P st T (st.ev x) with
   | none=>simp[nH] at h
   | some u =>
     simp only[nH,Option.map_some,Option.some.injEq] at h;subst h;obtain⟨w',hr,S'⟩:=OQ (ty:=o.type) S nH (S.ev x)
     have ha:c.args=#[x]:=by apply Array.ext';simpa using hx
     have ht:c.argTypes=#[T]:=by apply Array.ext';simpa using hT
     have hk:=hK ρ (a.put o.dst (.tuple #[])) w' (by
      have:=S'.put o.dst hd (x:=.eE []) (v:=.tuple #[]) (.eE [] #[] rfl (by simp))
      cases u with
      | none=>exact this
      | some p=>exact this)
     unfold Oper.wp;simp only[execOp,qH,resolve,hf,ha,ht,invoke,builtin];simp[hr]
     unfold Oper.upon;exact hk
  ·cases h
 ·cases h
theorem Th (S:kU F h0 w0 nt ρ st a w) {call:Nat→List AV→Option AV} (kJ:rC P call) {o:Oper} {e:rT} (h:dO P call o st=some e) (hd:∀d,o.dst=some d→d<nt)
 (hK:∀oC a' w',kU F h0 w0 nt oC (e.apply st) a' w'→K a' w'):o.wp P a w K Q:=by
 unfold dO at h;split at h
 ·rename_i T qH;cases lE:o.dst with
  | none=>simp[lE,cS] at h
  | some d =>
    cases hz:eH P T with
    | none=>simp[lE,hz,cS] at h
    | some z =>
      simp only[lE,hz,cS,Option.some.injEq] at h;subst h;obtain⟨i,zv,hi,LA,rfl,N0⟩:=zB hz
      obtain⟨oC,S'⟩:=S.newVar d (hd d lE) (zv.cells.toList.map .v) zv.cells T (gC.vs _ _ N0)
      refine upon_value (v:=.pointer (some ⟨w.heap.size,0,none⟩)) (w':=w.alloc (.cells zv.cells T)) ?_ (by rw[lE];exact hK oC _ _ (by rw[lJ];exact S'))
      simp only[execOp,qH,Instr.alloc];simp[Bw w hi LA,Go.newVar,Go.newRow]
 ·rename_i T x qH;cases lE:o.dst with
  | none=>simp[lE,cS] at h
  | some d =>
    simp only[lE,cS] at h;split at h
    ·rename_i yB;simp only[Option.some.injEq] at h;subst h;obtain⟨oC,S'⟩:=S.newVar d (hd d lE) (st.ev x).cells (a.eval x).cells T ((S.ev x).cells yB)
     refine upon_value (v:=.pointer (some ⟨w.heap.size,0,none⟩)) (w':=w.alloc (.cells (a.eval x).cells T)) ?_ (by rw[lE];exact hK oC _ _ (by rw[lJ];exact S'))
     simp only[execOp,qH,Instr.box];simp[Go.newVar,Go.newRow]
    ·cases h
 ·rename_i T n parts qH;cases lE:o.dst with
  | none=>simp[lE,cS] at h
  | some d =>
    cases hs:dS P T with
    | none=>simp[lE,hs,cS] at h
    | some t =>
      obtain⟨e',sz,by_⟩:=t
      cases hz:eH P e' with
      | none=>simp[lE,hs,hz,cS] at h
      | some z =>
        simp only[lE,hs,hz,cS] at h;split at h
        ·rename_i hc;obtain⟨c1,c2,c3⟩:=hc
         cases hf:gS (fun i=>some (i * sz,sz)) ((List.range n).flatMap fun _=>z.map .v) (parts.toList.map fun p=>(p.1,st.ev p.2)) with
         | none=>simp[hf] at h
         | some cs =>
           simp only[hf,Option.some.injEq] at h;subst h;obtain⟨v,w',xs,hr,hg,ho,oU⟩:=Rk S hs hz c1 c2 c3 hf
           obtain⟨oC,S'⟩:=S.newRow d (hd d lE) hg e' sz n cs xs v ho oU
           refine upon_value (v:=v) (w':=w') ?_ (by rw[lE];exact hK oC _ _ (by rw[lJ];exact S'))
           simp only[execOp,qH];rw[dL hr];rfl
        ·cases h
 ·rename_i T l c qH;cases lE:o.dst with
  | none=>simp[lE,cS] at h
  | some d =>
    cases hs:dS P T with
    | none=>simp[lE,hs,cS] at h
    | some t =>
      obtain⟨e',sz,by_⟩:=t
      cases hz:eH P e' with
      | none=>simp[lE,hs,hz,cS] at h
      | some z =>
        simp only[lE,hs,hz,cS] at h;split at h
        ·rename_i n m hl hc;split at h
         ·rename_i M9;obtain⟨c1,rfl,c3,c4⟩:=M9
          simp only[Option.some.injEq] at h;subst h;obtain⟨k,rfl⟩:∃k:Nat,n=k:=⟨n.toNat,by omega⟩
          obtain⟨v,w',xs,hr,hg,ho,oU⟩:=Ue (w:=w) (ctx h0 w0 ρ st w) hs hz (n:=k) (by
           have:((k * by_:Nat):Int)≤140737488355328:=by rw[Int.natCast_mul];exact c3
           omega) (by omega)
          obtain⟨oC,S'⟩:=S.newRow d (hd d lE) hg e' sz k _ xs v ho oU
          simp only[Int.toNat_natCast] at hK;refine upon_value (v:=v) (w':=w') ?_ (by rw[lE];exact hK oC _ _ (by rw[lJ];exact S'))
          have e1:=S.ev l
          rw[hl] at e1;have e1:=iO e1
          have e2:=S.ev c
          rw[hc] at e2;have e2:=iO e2
          simp only[execOp,qH,e1,e2];rw[dL hr];rfl
         ·cases h
        ·cases h
 ·rename_i T x y qH;cases hs:pZ P st T (st.ev x) (st.ev y) with
  | none=>simp[hs] at h
  | some u =>
    obtain⟨s,g,e'⟩:=u
    simp only[hs,Option.map_some,Option.some.injEq] at h;subst h;obtain⟨w',hr,S'⟩:=OP S hs (S.ev x) (S.ev y)
    have hk:=hK ρ _ w' (S'.put o.dst hd (.v undef))
    unfold Oper.wp;simp only[execOp,qH];rw[dL hr];exact hk
 ·rename_i T qH;cases lE:o.dst with
  | none=>simp[lE,cS] at h
  | some d =>
    simp only[lE,cS,Option.some.injEq] at h;subst h;obtain⟨S',k,pA⟩:=S.new (World.grownBy_alloc w (.map #[] 0) none) d (.map []) (.map (some w.heap.size)) rfl (fun b hb=>by simp[dI] at hb;omega)
     (fun C k _=>⟨w.heap.size,#[],0,rfl,S.ext.size,heap_alloc_new w _,trivial⟩)
    have bA:st.aQ d<(ctx h0 w0 (tW ρ d (st.aQ d) (.map (some w.heap.size))) (st.new d (.map [])) (w.alloc (.map #[] 0))).aQ d:=by simp[ctx,St.new]
    have lB:(ctx h0 w0 (tW ρ d (st.aQ d) (.map (some w.heap.size))) (st.new d (.map [])) (w.alloc (.map #[] 0))).ρ d (st.aQ d)=.map (some w.heap.size):=pA
    have:=cY.mp (C:=ctx h0 w0 (tW ρ d (st.aQ d) (.map (some w.heap.size))) (st.new d (.map [])) (w.alloc (.map #[] 0))) d (st.aQ d) bA (by rw[lB];rfl)
    rw[lB] at this;have hS:=S'.put (some d) (fun t ht=>by cases ht;exact hd d lE) this
    refine upon_value (v:=.map (some w.heap.size)) (w':=w.alloc (.map #[] 0)) ?_ (by rw[lE];exact hK _ _ _ (by rw[lJ];exact hS))
    simp only[execOp,qH,Option.map_none];rfl
 ·rename_i T m x y qH;cases hs:tT P st T (st.ev m) (st.ev x) (st.ev y) with
  | none=>simp[hs] at h
  | some u =>
    obtain⟨s,g,e'⟩:=u
    simp only[hs,Option.map_some,Option.some.injEq] at h;subst h;obtain⟨w',hr,S'⟩:=HO S hs (S.ev m) (S.ev x) (S.ev y)
    have hk:=hK ρ _ w' (S'.put o.dst hd (.v undef))
    unfold Oper.wp;simp only[execOp,qH];rw[dL hr];exact hk
 ·rename_i c qH;exact BS S kJ qH h hd hK
 ·cases hv:iX P st o.op with
  | none=>simp[hv] at h
  | some x =>
    simp only[hv,Option.map_some,Option.some.injEq] at h;subst h;obtain⟨v,hr,gB⟩:=OK S hv
    exact upon_value hr (hK ρ _ w (S.put o.dst hd gB))
end
end Go.Ab
end
section
namespace Go.Ab
open Classical
def mL (aQ:Nat→Nat) (x:AV):Prop:=∃(C:Ctx) (v:Value),C.aQ=aQ∧cY C x v
theorem mL.ptr {aQ:Nat→Nat} {s g o:Nat} (h:mL aQ (.ptr s g o)):g<aQ s:=by
 obtain⟨C,v,rfl,h⟩:=h
 cases h with
 | ptr s g off b hg hb=>exact hg
theorem mL.own {aQ:Nat→Nat} {s g:Nat} (h:mL aQ (.own s g)):g<aQ s:=by
 obtain⟨C,v,rfl,h⟩:=h
 cases h with
 | own s g hg _=>exact hg
theorem mL.vw {aQ:Nat→Nat} {s g o n:Nat} (h:mL aQ (.vw s g o n)):g<aQ s:=by
 obtain⟨C,v,rfl,h⟩:=h
 cases h with
 | vw s g o n b cap hg _ _ _=>exact hg
theorem mL.mp {aQ:Nat→Nat} {s g:Nat} (h:mL aQ (.mp s g)):g<aQ s:=by
 obtain⟨C,v,rfl,h⟩:=h
 cases h with
 | mp s g hg _=>exact hg
theorem mL.agg {aQ:Nat→Nat} {cs:List AV} (h:mL aQ (.agg cs)):∀c∈cs,mL aQ c:=by
 obtain⟨C,v,rfl,h⟩:=h
 cases h with
 | agg cs a hl hr _ =>
   intro c hc;obtain⟨i,hi,rfl⟩:=List.getElem_of_mem hc
   exact⟨C,a[i],rfl,hr i _ _ (by simp[hi]) (by simp)⟩
theorem mL.rS {aQ:Nat→Nat} {f:Nat} {cs:List AV} (h:mL aQ (.rS f cs)):∀c∈cs,mL aQ c:=by
 obtain⟨C,v,rfl,h⟩:=h
 cases h with
 | rS f cs a hl hr =>
   intro c hc;obtain⟨i,hi,rfl⟩:=List.getElem_of_mem hc
   exact⟨C,a[i]'(by omega),rfl,hr i _ _ (by simp[hi]) (by simp)⟩
section
variable {P:Program} {call:Nat→List AV→Option AV} {st st':St}
def qF (st st':St):Prop:=∀s g,g<st.aQ s→st'.heap s g=st.heap s g
theorem HW {x:AV} (hx:mL st.aQ x) (hh:qF st st'):qP st' x=qP st x:=by
 cases x<;>simp only[qP]
 rw[hh _ _ hx.ptr]
theorem sP {x:AV} (hx:mL st.aQ x) (hh:qF st st'):aW st' x=aW st x:=by
 cases x
 case own=>simp only[aW,hh _ _ hx.own]
 case vw=>simp only[aW,hh _ _ hx.vw]
 case v y =>
  cases y
  case slice p n c=>cases p<;>cases n<;>cases c<;>rfl
  all_goals rfl
 all_goals rfl
theorem Rm {T:Nat} {x i:AV} (hx:mL st.aQ x) (hh:qF st st'):bH P st' T x i=bH P st T x i:=by
 unfold bH;cases x<;>try rfl
 simp only[hh _ _ hx.own]
theorem Yk {T:Nat} {x:AV} {lo hi:Option Operand} (hx:∀s g,((∃o,x=.ptr s g o)∨x=.own s g∨∃o n,x=.vw s g o n)→st'.heap s g=st.heap s g) (hl:∀p,lo=some p→st'.ev p=st.ev p) (Cs:∀p,hi=some p→st'.ev p=st.ev p):dA P st' T x lo hi=dA P st T x lo hi:=by
 unfold dA;cases dS P T with
 | none =>
   simp only
   cases jJ P T with
   | none=>rfl
   | some na =>
     cases x<;>try rfl
     rename_i s g o;cases lo<;>cases hi<;>try rfl
     simp only[hx s g (.inl ⟨o,rfl⟩)]
 | some t =>
   simp only
   cases x<;>try rfl
   case v y =>
    cases y<;>try rfl
    rename_i p n c;cases p<;>cases n<;>cases c<;>try rfl
    cases lo with
    | none=>cases hi with
      | none=>rfl
      | some h=>simp only[Cs h rfl]
    | some l=>cases hi with
      | none=>simp only[hl l rfl]
      | some h=>simp only[hl l rfl,Cs h rfl]
   case sl n cs =>
    cases lo with
    | none=>cases hi with
      | none=>rfl
      | some h=>simp only[Cs h rfl]
    | some l=>cases hi with
      | none=>simp only[hl l rfl]
      | some h=>simp only[hl l rfl,Cs h rfl]
   case own s g =>
    simp only[hx s g (.inr (.inl rfl))];cases lo with
    | none=>cases hi with
      | none=>rfl
      | some h=>simp only[Cs h rfl]
    | some l=>cases hi with
      | none=>simp only[hl l rfl]
      | some h=>simp only[hl l rfl,Cs h rfl]
   case vw s g o n =>
    cases o with
    | succ o=>rfl
    | zero =>
      simp only[hx s g (.inr (.inr ⟨_,_,rfl⟩))];cases st.heap s g with
      | none=>rfl
      | some e=>cases e with
        | row e' tN n' Ea =>
          cases lo with
          | none=>cases hi<;>rfl
          | some l=>cases hi with
            | none=>rfl
            | some h=>simp only[hl l rfl,Cs h rfl]
        | _=>rfl
theorem HX {T:Nat} {x:AV} {lo hi:Option Operand} (hx:mL st.aQ x) (hh:qF st st') (hl:∀p,lo=some p→st'.ev p=st.ev p) (Cs:∀p,hi=some p→st'.ev p=st.ev p):dA P st' T x lo hi=dA P st T x lo hi :=
 Yk (fun s g h=>by
  rcases h with ⟨o,rfl⟩|rfl|⟨o,n,rfl⟩
  ·exact hh _ _ hx.ptr
  ·exact hh _ _ hx.own
  ·exact hh _ _ hx.vw) hl Cs
def BT (st:St):Prop:=∀s g cs,st.heap s g=some (.cells cs)→∀c∈cs,mL st.aQ c
theorem OR {x:AV} (hx:mL st.aQ x) (hh:qF st st'):wK st' x=wK st x:=by
 unfold wK;cases x<;>try rfl
 ·simp only[hh _ _ hx.own]
 ·simp only[hh _ _ hx.vw]
theorem Hv (hp:BT st) {x:AV} (hx:mL st.aQ x) (hh:qF st st'):cN st' x=cN st x:=by
 unfold cN;cases x<;>try rfl
 ·rename_i s g o;simp only[hh _ _ hx.ptr];cases he:st.heap s g with
  | none=>rfl
  | some e =>
    cases e with
    | cells cs =>
      have:cs.map (wK st')=cs.map (wK st):=List.map_congr_left fun c hc=>OR (hp s g cs he c hc) hh
      simp only[this]
    | _=>rfl
 ·simp only[hh _ _ hx.own]
 ·simp only[hh _ _ hx.vw]
theorem Yl (hp:BT st) {x:AV} (hx:mL st.aQ x) (hh:qF st st'):fO st' x=fO st x:=by
 unfold fO;cases x<;>try (simp only[Hv hp hx hh];done)
 ·rename_i cs;have:cs.map (cN st')=cs.map (cN st):=List.map_congr_left fun c hc=>Hv hp (hx.agg c hc) hh
  simp only[this]
 ·rename_i f cs;have:cs.map (cN st')=cs.map (cN st):=List.map_congr_left fun c hc=>Hv hp (hx.rS c hc) hh
  simp only[this]
theorem HY {T:Nat} {x y:AV} (hx:mL st.aQ x) (hh:qF st st'):pZ P st' T x y=pZ P st T x y:=by
 unfold pZ;cases x<;>try rfl
 simp only[hh _ _ hx.ptr]
theorem BU {T:Nat} {s x:AV} (hs:mL st.aQ s) (hx:mL st.aQ x) (hh:qF st st'):dH P st' T s x=dH P st T s x:=by
 unfold dH;simp only[sP hx hh];cases s
 case own=>simp only[hh _ _ hs.own]
 case v y =>
  cases y
  case slice p n c=>cases p<;>cases n<;>cases c<;>rfl
  all_goals rfl
 all_goals rfl
theorem BV {T:Nat} {s x:AV} (hs:mL st.aQ s) (hx:mL st.aQ x) (hh:qF st st'):nX P st' T s x=nX P st T s x:=by
 unfold nX;rw[sP hx hh];cases dS P T with
 | none=>rfl
 | some t=>cases aW st x with
   | none=>rfl
   | some mn =>
     cases s<;>try rfl
     case vw s g o n =>
      cases o with
      | zero=>simp only[hh _ _ hs.vw]
      | succ o=>rfl
theorem HZ {T:Nat} {x:AV} (hx:mL st.aQ x) (hh:qF st st'):sA P st' T x=sA P st T x:=by
 unfold sA;cases dS P T with
 | none=>rfl
 | some t =>
   cases x<;>try rfl
   case vw s g o n=>simp only[hh _ _ hx.vw]
   case v y =>
    cases y<;>try rfl
    rename_i p n c;cases p<;>cases n<;>cases c<;>rfl
   case sl n cs=>cases n<;>rfl
theorem Ti {T:Nat} {x:AV} {lo:Option Operand} {hi mx:Operand} (hx:∀s g,x=.own s g→st'.heap s g=st.heap s g) (hl:∀p,lo=some p→st'.ev p=st.ev p) (h1:st'.ev hi=st.ev hi) (h2:st'.ev mx=st.ev mx):At P st' T x lo hi mx=At P st T x lo hi mx:=by
 unfold At;rw[h1,h2];cases dS P T with
 | none=>rfl
 | some t =>
   simp only
   cases lo with
   | none =>
     simp only
     cases x<;>try rfl
     case own s g=>simp only[hx s g rfl]
     case v y =>
      cases y<;>try rfl
      rename_i p n c;cases p<;>cases n<;>cases c<;>rfl
   | some l =>
     simp only[hl l rfl];cases x<;>try rfl
     case own s g=>simp only[hx s g rfl]
     case v y =>
      cases y<;>try rfl
      rename_i p n c;cases p<;>cases n<;>cases c<;>rfl
theorem OS {T:Nat} {m x:AV} {ok:Bool} (hm:mL st.aQ m) (hh:qF st st'):Sn P st' T m x ok=Sn P st T m x ok:=by
 unfold Sn;cases m<;>try rfl
 simp only[hh _ _ hm.mp]
theorem BW {T:Nat} {m x y:AV} (hm:mL st.aQ m) (hh:qF st st'):tT P st' T m x y=tT P st T m x y:=by
 unfold tT;cases m<;>try rfl
 simp only[hh _ _ hm.mp]
theorem IA {r:AV} {dst:Option Nat} (hc:∀d,dst=some d→st'.aQ d=st.aQ d):jC r st' dst=jC r st dst:=by
 unfold jC;cases dst with
 | none=>rfl
 | some d=>simp only[hc d rfl]
theorem yI (hp:BT st) {g:Nat} {args:List AV} {dst:Option Nat} (hx:∀x∈args,mL st.aQ x) (hh:qF st st') (hc:∀d,dst=some d→st'.aQ d=st.aQ d):aN call g args st' dst=aN call g args st dst:=by
 unfold aN;have:args.map (fO st')=args.map (fO st):=List.map_congr_left fun x Jd=>Yl hp (hx x Jd) hh
 rw[this];have h2:∀r,jC r st' dst=jC r st dst:=fun r=>IA hc
 simp only[h2]
theorem IB (hp:BT st) {g:Nat} {args:List AV} {dst:Option Nat} (hx:∀x∈args,mL st.aQ x) (hh:qF st st') (hc:∀d,dst=some d→st'.aQ d=st.aQ d):lL call g args st' dst=lL call g args st dst:=by
 unfold lL;split
 ·rename_i s k rest;rw[hh _ _ (hx _ (List.mem_cons_self ..)).own];cases dst with
  | none=>rfl
  | some d=>simp only[hc d rfl]
 ·rw[yI hp hx hh hc]
theorem BX (hp:BT st) {g:Nat} {args:List AV} {dst:Option Nat} (hx:∀x∈args,mL st.aQ x) (hh:qF st st') (hc:∀d,dst=some d→st'.aQ d=st.aQ d):fF call g args st' dst=fF call g args st dst:=by
 have h1:=yI (call:=call) (g:=g) hp hx hh hc
 have:args.map (fO st')=args.map (fO st):=List.map_congr_left fun x Jd=>Yl hp (hx x Jd) hh
 unfold fF;rw[this,h1];have h2:∀r s k,Ec r st' dst s k=Ec r st dst s k:=fun r s k=>by
  unfold Ec;cases dst with
  | none=>cases r<;>rfl
  | some d=>cases r<;>simp only[hc d rfl]
 simp only[h2]
theorem Oq {parts:List (Nat × Operand)} (h:∀p∈parts,st'.ev p.2=st.ev p.2):(parts.map fun p=>(p.1,st'.ev p.2))=parts.map fun p=>(p.1,st.ev p.2) :=
 List.map_congr_left fun p hp=>by rw[h p hp]
theorem Vk {parts:List (Nat × Operand)} (h:∀p∈parts,st'.ev p.2=st.ev p.2):(parts.all fun p=>(st'.ev p.2).jD)=parts.all fun p=>(st.ev p.2).jD:=by
 induction parts with
 | nil=>rfl
 | cons p ps ih =>
   simp only[List.all_cons];rw[h p (by simp),ih fun q hq=>h q (by simp[hq])]
theorem E6 {aQ:Nat→Nat} {x:AV} {g:Nat} {mF:List AV} (h:FZ x=some (g,mF)) (hx:mL aQ x):∀c∈mF,mL aQ c:=by
 unfold FZ at h;split at h
 ·split at h
  ·simp only[Option.some.injEq,Prod.mk.injEq] at h;obtain⟨rfl,rfl⟩:=h
   simp
  ·cases h
 ·simp only[Option.some.injEq,Prod.mk.injEq] at h;obtain⟨rfl,rfl⟩:=h
  exact hx.rS
 ·cases h
variable [Ext]
theorem BY (hp:BT st) {c:Call} {dst:Option Nat} (he:∀p∈c.operands,st'.ev p=st.ev p) (hi:∀p∈c.operands,mL st.aQ (st.ev p)) (hh:qF st st') (hc:∀d,dst=some d→st'.aQ d=st.aQ d) :
 iT P call c dst st'=iT P call c dst st:=by
 have uX:∀p∈c.args.toList,p∈c.operands:=fun p hp=>by simp[Call.operands];right;simpa using hp
 unfold iT;split
 ·rename_i f hf;have hfo:f∈c.operands:=by simp[Call.operands,hf]
  have hm:c.args.toList.map st'.ev=c.args.toList.map st.ev:=List.map_congr_left fun p hp=>he p (uX p hp)
  have hia:∀x∈c.args.toList.map st.ev,mL st.aQ x:=fun x hx=>by
   obtain⟨p,hp,rfl⟩:=List.mem_map.1 hx
   exact hi p (uX p hp)
  unfold nY;rw[hm];split
  ·split
   ·exact IB hp hia hh hc
   ·split
    ·exact BX hp hia hh hc
    ·exact yI hp hia hh hc
  ·rw[he f hfo];cases h:FZ (st.ev f) with
   | none=>rfl
   | some gc =>
     obtain⟨g,mF⟩:=gc
     refine yI hp (fun x hx=>?_) hh hc
     rcases List.mem_append.1 hx with hx|hx
     ·exact hia x hx
     ·exact E6 h (hi f hfo) x hx
 ·split
  ·rename_i x T hx hT;have Y7:=uX x (by rw[hx];simp)
   rw[he x Y7,sP (hi x Y7) hh]
  ·rfl
 ·split
  ·rename_i x y hx;rw[he x (uX x (by rw[hx];simp)),he y (uX y (by rw[hx];simp))]
  ·rfl
 ·split
  ·rename_i x y hx;rw[he x (uX x (by rw[hx];simp)),he y (uX y (by rw[hx];simp))]
  ·rfl
 ·cases dst with
  | none=>rfl
  | some d =>
  simp only[cS];split
  ·rename_i s x T T' hx hT
   have hso:=uX s (by rw[hx];simp)
   have Y7:=uX x (by rw[hx];simp)
   have hn:Gn P st' T (st'.ev s) (st'.ev x)=Gn P st T (st.ev s) (st.ev x):=by simp only[Gn,he s hso,he x Y7,sP (hi x Y7) hh]
   rw[hn,he s hso,he x Y7,BU (hi s hso) (hi x Y7) hh,BV (hi s hso) (hi x Y7) hh,hc d rfl]
  ·rfl
 ·split
  ·rename_i x T hx hT;have Y7:=uX x (by rw[hx];simp)
   rw[he x Y7,HZ (hi x Y7) hh]
  ·rfl
 ·rfl
theorem OT (hp:BT st) {o:Oper} (he:∀p∈o.op.operands,st'.ev p=st.ev p) (hi:∀p∈o.op.operands,mL st.aQ (st.ev p)) (hh:qF st st') (hc:∀d,o.dst=some d→st'.aQ d=st.aQ d) :
 dO P call o st'=dO P call o st:=by
 obtain⟨dst,op,type,pos,after,guard⟩:=o
 cases op<;>simp only[dO,iX,Op.operands] at *
 case call c=>exact BY hp he hi hh hc
 case alloc T=>cases dst with
  | none=>rfl
  | some d=>simp only[cS,hc d rfl]
 case box T x=>cases dst with
  | none=>rfl
  | some d=>simp only[cS,hc d rfl,he x (by simp)]
 case buildSlice T n parts =>
  have Ah:∀p∈parts.toList,st'.ev p.2=st.ev p.2:=fun p hp=>he p.2 (by simp;exact⟨p.1,by simpa using hp⟩)
  rw[Oq Ah,Vk Ah];cases dst with
  | none=>rfl
  | some d=>simp only[cS,hc d rfl]
 case makeSlice T l c =>
  rw[he l (by simp),he c (by simp)]
  cases dst with
  | none=>rfl
  | some d=>simp only[cS,hc d rfl]
 case makeMap T r =>
  cases r with
  | none=>cases dst with
    | none=>rfl
    | some d=>simp only[cS,hc d rfl]
  | some r=>rfl
 case mapUpdate T m x y=>rw[he m (by simp),he x (by simp),he y (by simp),BW (hi m (by simp)) hh]
 case lookup T m x ok=>rw[he m (by simp),he x (by simp),OS (hi m (by simp)) hh]
 case store T x y=>rw[he x (by simp),he y (by simp),HY (hi x (by simp)) hh]
 case move x=>rw[he x (by simp)]
 case assign x=>rw[he x (by simp)]
 case pick c x y=>rw[he c (by simp),he x (by simp),he y (by simp)]
 case binOp op T x y yT=>rw[he x (by simp),he y (by simp)]
 case unOp op T x=>rw[he x (by simp)]
 case convert s d x=>rw[he x (by simp)]
 case nilCheck x=>rw[he x (by simp)]
 case field T x f=>rw[he x (by simp)]
 case fieldAddr T x f=>rw[he x (by simp)]
 case indexAddr T x i=>rw[he x (by simp),he i (by simp),Rm (hi x (by simp)) hh]
 case load T x=>rw[he x (by simp),HW (hi x (by simp)) hh]
 case extract t i=>rw[he t (by simp)]
 case build T parts =>
  have Ah:∀p∈parts.toList,st'.ev p.2=st.ev p.2:=fun p hp=>he p.2 (by simp;exact⟨p.1,by simpa using hp⟩)
  unfold iW;rw[Oq Ah,Vk Ah]
 case slice T x lo Cs mx =>
  cases mx with
  | some m =>
    cases Cs with
    | none=>rfl
    | some h =>
      simp only
      rw[he x (by simp),Ti (fun s g hx=>by have:=hi x (by simp);rw[hx] at this;exact hh _ _ this.own) (fun p hp=>he p (by simp[hp])) (he h (by simp)) (he m (by simp))]
  | none =>
    simp only
    rw[he x (by simp),HX (hi x (by simp)) hh (fun p hp=>he p (by simp[hp])) (fun p hp=>he p (by simp[hp]))]
 case makeFunc fn first captured =>
  cases fn with
  | func f =>
    simp only
    have:captured.toList.map st'.ev=captured.toList.map st.ev:=List.map_congr_left fun p hp=>he p (by simp;right;simpa using hp)
    rw[this]
  | _=>rfl
theorem IC {ops:Array Oper} {o:Oper} (zD:mN ops o=0∨mN ops o=2) (he:∀p∈o.op.operands,st'.ev p=st.ev p) (hc:∀d,o.dst=some d→st'.aQ d=st.aQ d) :
 dO P call o st'=dO P call o st:=by
 obtain⟨dst,op,type,pos,after,guard⟩:=o
 cases op<;>simp only[dO,iX,Op.operands,mN] at *
 case call c =>
  exfalso
  obtain⟨callee,args,tL⟩:=c
  cases callee with
  | builtin b=>cases b<;>simp at zD;split at zD<;>simp at zD
  | value f=>cases f<;>simp at zD;split at zD<;>(try split at zD)<;>(try split at zD)<;>simp at zD
  | _=>simp at zD
 case alloc T=>cases dst with
  | none=>rfl
  | some d=>simp only[cS,hc d rfl]
 case box T x=>cases dst with
  | none=>rfl
  | some d=>simp only[cS,hc d rfl,he x (by simp)]
 case buildSlice T n parts =>
  have Ah:∀p∈parts.toList,st'.ev p.2=st.ev p.2:=fun p hp=>he p.2 (by simp;exact⟨p.1,by simpa using hp⟩)
  rw[Oq Ah,Vk Ah];cases dst with
  | none=>rfl
  | some d=>simp only[cS,hc d rfl]
 case makeSlice T l c =>
  rw[he l (by simp),he c (by simp)]
  cases dst with
  | none=>rfl
  | some d=>simp only[cS,hc d rfl]
 case makeMap T r =>
  cases r with
  | none=>cases dst with
    | none=>rfl
    | some d=>simp only[cS,hc d rfl]
  | some r=>rfl
 case mapUpdate T m x y=>simp at zD
 case lookup T m x ok=>simp at zD
 case store T x y=>simp at zD
 case move x=>rw[he x (by simp)]
 case assign x=>rw[he x (by simp)]
 case pick c x y=>rw[he c (by simp),he x (by simp),he y (by simp)]
 case binOp op T x y yT=>rw[he x (by simp),he y (by simp)]
 case unOp op T x=>rw[he x (by simp)]
 case convert s d x=>rw[he x (by simp)]
 case nilCheck x=>rw[he x (by simp)]
 case field T x f=>rw[he x (by simp)]
 case fieldAddr T x f=>rw[he x (by simp)]
 case indexAddr T x i=>simp at zD
 case load T x=>simp at zD
 case extract t i=>rw[he t (by simp)]
 case build T parts =>
  have Ah:∀p∈parts.toList,st'.ev p.2=st.ev p.2:=fun p hp=>he p.2 (by simp;exact⟨p.1,by simpa using hp⟩)
  unfold iW;rw[Oq Ah,Vk Ah]
 case slice T x lo Cs mx=>simp at zD
 case makeFunc fn first captured =>
  cases fn with
  | func f =>
    simp only
    have:captured.toList.map st'.ev=captured.toList.map st.ev:=List.map_congr_left fun p hp=>he p (by simp;right;simpa using hp)
    rw[this]
  | _=>rfl
end
end Go.Ab
end
section
namespace Go.Ab
open Classical
section
variable {P:Program} {call:Nat→List AV→Option AV} {st st':St} {ops:Array Oper}
theorem Ot {r:AV} {dst:Option Nat} {e:rT} (h:jC r st dst=some e):e.dst=dst∧e.dQ=none∧∀d x,e.new=some (d,x)→dst=some d:=by
 unfold jC at h;split at h
 ·simp only[Option.some.injEq] at h;subst h;exact⟨rfl,rfl,fun d x h=>by simp at h⟩
 ·cases dst with
  | none=>cases h
  | some d=>simp only[Option.some.injEq] at h;subst h;exact⟨rfl,rfl,fun d x h=>by simp at h;rw[h.1]⟩
theorem yJ {g:Nat} {args:List AV} {dst:Option Nat} {e:rT} (h:aN call g args st dst=some e):e.dst=dst∧e.dQ=none∧∀d x,e.new=some (d,x)→dst=some d:=by
 unfold aN at h;split at h
 ·cases hc:call g args with
  | none=>simp[hc,cS] at h
  | some r=>simp only[hc,cS] at h;exact Ot h
 ·split at h
  ·rename_i xs _;cases hc:call g xs with
   | none=>simp[hc,cS] at h
   | some r =>
     simp only[hc,cS] at h;split at h
     ·exact Ot h
     ·cases h
  ·cases h
theorem Ou {g:Nat} {args:List AV} {dst:Option Nat} {e:rT} (h:lL call g args st dst=some e):e.dst=dst∧(∀d x,e.new=some (d,x)→dst=some d)∧∀s k x,e.dQ=some (s,k,x)→args.head? = some (.own s k):=by
 unfold lL at h;split at h
 ·split at h
  ·split at h
   ·split at h
    ·cases dst with
     | none=>cases h
     | some d =>
       simp only[Option.some.injEq] at h;subst h;exact⟨rfl,fun d x h=>by simp at h;rw[h.1],fun s k x h=>by simp at h;simp[h.1,h.2.1]⟩
    ·simp only[Option.some.injEq] at h;subst h;exact⟨rfl,fun d x h=>by simp at h,fun s k x h=>by simp at h;simp[h.1,h.2.1]⟩
    ·cases h
   ·cases h
  ·cases h
 ·split at h
  ·obtain⟨h1,h2,h3⟩:=yJ h
   exact⟨h1,h3,fun s k x h=>by rw[h2] at h;cases h⟩
  ·cases h
theorem BZ {g:Nat} {args:List AV} {dst:Option Nat} {e:rT} (h:fF call g args st dst=some e):e.dst=dst∧(∀d x,e.new=some (d,x)→dst=some d)∧∀s k x,e.dQ=some (s,k,x)→∃y∈args,y=.own s k∨∃cs,y=.agg cs∧.own s k∈cs:=by
 unfold fF at h;split at h
 ·rename_i s k hk;split at h
  ·split at h
   ·rename_i xs _;cases hc:call g xs with
    | none=>simp[hc,cS] at h
    | some r =>
      simp only[hc,cS] at h;have hu:e.dQ=some (s,k,none)∧e.dst=dst∧∀d x,e.new=some (d,x)→dst=some d:=by
       rcases Oo h with ⟨_,rfl⟩|⟨_,e1,sz,n,cs,d,rfl,rfl,_,rfl⟩
       ·exact⟨rfl,rfl,fun d x h=>by simp at h⟩
       ·exact⟨rfl,rfl,fun d x h=>by simp at h;rw[h.1]⟩
      ·refine⟨hu.2.1,hu.2.2,fun s' k' x h=>?_⟩
       rw[hu.1] at h;simp only[Option.some.injEq,Prod.mk.injEq] at h;obtain⟨rfl,rfl,_⟩:=h
       have hm:(s,k)∈args.flatMap jE:=by rw[hk];simp
       obtain⟨y,hy,hyk⟩:=List.mem_flatMap.1 hm
       refine⟨y,hy, ?_⟩
       have key:∀c,(s,k)∈hU c→c=.own s k:=fun c hc=>by
        cases c<;>simp[hU] at hc
        obtain⟨rfl,rfl⟩:=hc
        rfl
       cases y with
       | agg cs =>
         obtain⟨c,hc,hck⟩:=List.mem_flatMap.1 (show (s,k)∈cs.flatMap hU from hyk)
         exact .inr ⟨cs,rfl,by rw[← key c hck];exact hc⟩
       | own a b=>exact .inl (key _ hyk)
       | _=>simp[jE,hU] at hyk
   ·cases h
  ·cases h
 ·obtain⟨h1,h2,h3⟩:=yJ h
  exact⟨h1,h3,fun s k x h=>by rw[h2] at h;cases h⟩
theorem oP (e:rT) (t:Nat):(e.apply st).env t=if e.dst=some t then e.val else st.env t:=by
 have h2:∀(s1:St),(s1.put e.dst e.val).env t=if e.dst=some t then e.val else s1.env t:=fun s1=>by
  cases hd:e.dst with
  | none=>simp[St.put]
  | some d =>
    simp only[St.put,Option.some.injEq];by_cases h:t=d
    ·subst h;simp
    ·rw[if_neg h,if_neg (fun h'=>h h'.symm)]
 unfold rT.apply;rw[h2];cases e.dQ<;>cases e.new<;>rfl
theorem lK (e:rT) (s:Nat):(e.apply st).aQ s=match e.new with
 | some (d,es)=>if s=d then st.aQ d+es.length else st.aQ s
 | none=>st.aQ s:=by
 unfold rT.apply;rw[YM];cases e.dQ<;>cases e.new<;>rfl
theorem sY (e:rT) (s g:Nat):(e.apply st).heap s g=match e.new with
 | some (d,es)=>if s=d∧st.aQ d≤g∧g-st.aQ d<es.length then es[g-st.aQ d]? else (match e.dQ with
   | some (s0,g0,y)=>if s=s0∧g=g0 then y else st.heap s g
   | none=>st.heap s g)
 | none=>(match e.dQ with
   | some (s0,g0,y)=>if s=s0∧g=g0 then y else st.heap s g
   | none=>st.heap s g):=by
 unfold rT.apply;rw[Vv];cases e.dQ<;>cases e.new<;>rfl
theorem Y8 {o:Oper} (h:∀j want d,o.guard=some (j,want)→(ops[j]?).bind (·.dst)=some d→st'.env d=st.env d):gv ops st' o.guard=gv ops st o.guard:=by
 unfold gv;cases hg:o.guard with
 | none=>rfl
 | some jw =>
   obtain⟨j,want⟩:=jw
   simp only
   cases hd:(ops[j]?).bind (·.dst) with
   | none=>rfl
   | some d=>simp only[h j want d hg hd]
theorem Y9 {a b:St} (h1:a.env=b.env) (h2:a.heap=b.heap) (h3:a.aQ=b.aQ):a=b:=by
 cases a;cases b;simp_all
theorem Ym {T:Nat} {p x:AV} {u:Nat × Nat × nU × Nat} (h:nX P st T p x=some u):∃n,p=.vw u.1 u.2.1 0 n:=by
 unfold nX at h;split at h
 ·split at h
  ·split at h
   ·simp only[Option.some.injEq] at h;subst h;exact⟨_,rfl⟩
   ·cases h
  ·cases h
 ·cases h
theorem E7 {T:Nat} {p:AV} {u:Nat × Nat × nU} (h:sA P st T p=some (some u)):∃o n,p=.vw u.1 u.2.1 o n:=by
 unfold sA at h;split at h
 ·split at h
  ·split at h
   ·simp only[Option.some.injEq] at h;subst h;exact⟨_,_,rfl⟩
   ·cases h
  ·cases h
 ·simp at h
 ·simp at h
 ·cases h
variable [Ext]
theorem OU {o:Oper} {e:rT} (h:dO P call o st=some e) :
 e.dst=o.dst∧(∀d x,e.new=some (d,x)→o.dst=some d)∧(∀s g x,e.dQ=some (s,g,x)→mN ops o=3∧∃p∈o.op.operands,(∃off,st.ev p=.ptr s g off)∨st.ev p=.own s g∨st.ev p=.mp s g∨(∃cs,st.ev p=.agg cs∧.own s g∈cs)∨∃o n,st.ev p=.vw s g o n):=by
 obtain⟨dst,op,type,pos,after,guard⟩:=o
 have val:∀x:Option AV,(x.map fun y=>({ dst:=dst,val:=y }:rT))=some e→e.dst=dst∧(∀d x,e.new=some (d,x)→dst=some d)∧(∀s g x,e.dQ≠some (s,g,x)):=fun x h=>by
  cases x with
  | none=>simp at h
  | some y=>simp at h;subst h;exact⟨rfl,fun d x h=>by simp at h,fun s g x h=>by simp at h⟩
 cases op
 case call c =>
  simp only[dO] at h;unfold iT at h;split at h
  ·rename_i f hc;unfold nY at h;split at h
   ·rename_i g;split at h
    ·rename_i hmv;obtain⟨h1,h2,h3⟩:=Ou h
     refine⟨h1,h2,fun s k x hu=>?_⟩
     have hh:=h3 s k x hu
     obtain⟨callee,args,tL⟩:=c
     simp only at hc hh
     subst hc;cases hl:args.toList with
     | nil=>rw[hl] at hh;simp at hh
     | cons p ps =>
       rw[hl] at hh;simp only[List.map_cons,List.head?_cons,Option.some.injEq] at hh;refine⟨?_,p, ?_,.inr (.inl hh)⟩
       ·simp only[mN,hl,hmv];cases p with
        | const v=>simp[St.ev] at hh
        | _=>simp
       simp only[Op.operands,Call.operands];simp
       right
       rw[← Array.mem_toList_iff,hl];simp
    ·split at h
     ·rename_i heat;obtain⟨h1,h2,h3⟩:=BZ h
      refine⟨h1,h2,fun s k x hu=>?_⟩
      obtain⟨y,hy,hyo⟩:=h3 s k x hu
      obtain⟨callee,args,tL⟩:=c
      simp only at hc hy
      subst hc;refine⟨by simp[mN,heat], ?_⟩
      obtain⟨p,hp,rfl⟩:=List.mem_map.1 hy
      refine⟨p, ?_, ?_⟩
      ·simp only[Op.operands,Call.operands];simp
       right
       simpa using hp
      ·rcases hyo with h|⟨cs,h,hm⟩
       ·exact .inr (.inl h)
       ·exact .inr (.inr (.inr (.inl ⟨cs,h,hm⟩)))
     ·obtain⟨h1,h2,h3⟩:=yJ h
      exact⟨h1,h3,fun s g x h=>by rw[h2] at h;cases h⟩
   ·split at h
    ·obtain⟨h1,h2,h3⟩:=yJ h
     exact⟨h1,h3,fun s g x h=>by rw[h2] at h;cases h⟩
    ·cases h
  ·split at h
   ·split at h
    ·simp only[Option.some.injEq] at h;subst h;exact⟨rfl,fun d x h=>by simp at h,fun s g x h=>by simp at h⟩
    ·cases h
   ·cases h
  ·split at h
   ·split at h
    ·simp only[Option.some.injEq] at h;subst h;exact⟨rfl,fun d x h=>by simp at h,fun s g x h=>by simp at h⟩
    ·cases h
   ·cases h
  ·split at h
   ·split at h
    ·simp only[Option.some.injEq] at h;subst h;exact⟨rfl,fun d x h=>by simp at h,fun s g x h=>by simp at h⟩
    ·cases h
   ·cases h
  ·rename_i hc;cases dst with
   | none=>simp[cS] at h
   | some d =>
     simp only[cS] at h;split at h
     ·rename_i s x T T' hx hT
      split at h
      ·split at h
       ·cases nH:nX P st T (st.ev s) (st.ev x) with
        | none=>simp[nH] at h
        | some u =>
        simp only[nH,Option.map_some,Option.some.injEq] at h;subst h;refine⟨rfl,nofun,fun s' g' x' hu=>?_⟩
        simp only[Option.some.injEq,Prod.mk.injEq] at hu;obtain⟨rfl,rfl,rfl⟩:=hu
        obtain⟨n0,zV⟩:=Ym nH
        refine⟨?_,s, ?_,.inr (.inr (.inr (.inr ⟨0,n0,zV⟩)))⟩
        ·obtain⟨callee,args,tL⟩:=c
         simp only at hc hx
         subst hc;simp only[mN,hx];cases s with
         | const v =>
           simp[St.ev] at zV
         | _=>rfl
        ·simp only[Op.operands,Call.operands,hc];simp
         rw[← Array.mem_toList_iff,hx];simp
       split at h
       ·simp only[Option.some.injEq] at h;subst h;exact⟨rfl,nofun,nofun⟩
       cases nH:dH P st T (st.ev s) (st.ev x) with
       | none=>simp[nH] at h
       | some ur =>
         obtain⟨u,r⟩:=ur
         simp only[nH,Option.some.injEq] at h;subst h;refine⟨rfl,fun d x h=>by simp at h;rw[h.1],fun s' g' x' hu=>?_⟩
         simp only[Option.map_eq_some_iff] at hu;obtain⟨⟨s2,g2⟩,hu1,hu2⟩:=hu
         simp only[Prod.mk.injEq] at hu2;obtain⟨rfl,rfl,rfl⟩:=hu2
         subst hu1;have zV:st.ev s=.own s2 g2:=by
          unfold dH at nH;split at nH
          ·split at nH
           ·split at nH
            ·split at nH
             ·split at nH<;>simp at nH
             ·rename_i s3 g3 hs3;split at nH
              ·split at nH
               ·simp only[Option.some.injEq,Prod.mk.injEq] at nH;obtain⟨⟨rfl,rfl⟩,_⟩:=nH
                exact hs3
               ·cases nH
              ·cases nH
             ·split at nH<;>simp at nH
             ·cases nH
            ·cases nH
           ·cases nH
          ·cases nH
         refine⟨?_,s, ?_,.inr (.inl zV)⟩
         ·obtain⟨callee,args,tL⟩:=c
          simp only at hc hx
          subst hc;simp only[mN,hx];cases s with
          | const v =>
            simp[St.ev] at zV
          | _=>rfl
         ·simp only[Op.operands,Call.operands,hc];simp
          rw[← Array.mem_toList_iff,hx];simp
      ·cases h
     ·cases h
  ·rename_i hc;split at h
   ·rename_i x T hx hT;cases nH:sA P st T (st.ev x) with
    | none=>simp[nH] at h
    | some u =>
      simp only[nH,Option.map_some,Option.some.injEq] at h;subst h;refine⟨rfl,nofun,fun s' g' x' hu=>?_⟩
      simp only[Option.map_eq_some_iff,Prod.mk.injEq] at hu;obtain⟨p,rfl,rfl,rfl,_⟩:=hu
      obtain⟨o,n,zV⟩:=E7 nH
      refine⟨?_,x, ?_,.inr (.inr (.inr (.inr ⟨o,n,zV⟩)))⟩
      ·obtain⟨callee,args,tL⟩:=c
       simp only at hc
       subst hc;rfl
      ·simp only[Op.operands,Call.operands,hc];simp
       rw[← Array.mem_toList_iff,hx];simp
   ·cases h
  ·cases h
 case store T x y =>
  simp only[dO] at h;cases hs:pZ P st T (st.ev x) (st.ev y) with
  | none=>simp[hs] at h
  | some u =>
    obtain⟨s,g,e'⟩:=u
    simp only[hs,Option.map_some,Option.some.injEq] at h;subst h;refine⟨rfl,fun d x h=>by simp at h,fun s' g' x' hu=>⟨rfl,x,by simp[Op.operands],.inl ?_⟩⟩
    simp only[Option.some.injEq,Prod.mk.injEq] at hu;obtain⟨rfl,rfl,_⟩:=hu
    unfold pZ at hs;split at hs
    ·rename_i s1 g1 o1 hp;refine⟨o1, ?_⟩
     rw[hp];split at hs
     ·split at hs
      ·split at hs
       ·split at hs
        ·simp only[Option.some.injEq,Prod.mk.injEq] at hs;rw[hs.1,hs.2.1]
        ·cases hs
       ·split at hs
        ·simp only[Option.some.injEq,Prod.mk.injEq] at hs;rw[hs.1,hs.2.1]
        ·cases hs
       ·cases hs
      ·cases hs
     ·cases hs
    ·cases hs
 case alloc T =>
  simp only[dO] at h;cases dst with
  | none=>simp[cS] at h
  | some d=>cases hz:eH P T with
    | none=>simp[hz,cS] at h
    | some z=>simp only[hz,cS,Option.some.injEq] at h;subst h;exact⟨rfl,fun d x h=>by simp at h;rw[h.1],fun s g x h=>by simp at h⟩
 case box T x =>
  simp only[dO] at h;cases dst with
  | none=>simp[cS] at h
  | some d =>
    simp only[cS] at h;split at h
    ·simp only[Option.some.injEq] at h;subst h;exact⟨rfl,fun d x h=>by simp at h;rw[h.1],fun s g x h=>by simp at h⟩
    ·cases h
 case buildSlice T n parts =>
  simp only[dO] at h;cases dst with
  | none=>simp[cS] at h
  | some d=>cases hs:dS P T with
    | none=>simp[hs,cS] at h
    | some t=>cases hz:eH P t.1 with
      | none=>simp[hs,hz,cS] at h
      | some z =>
        simp only[hs,hz,cS] at h;split at h
        ·cases hf:gS (fun i=>some (i * t.2.1,t.2.1)) ((List.range n).flatMap fun _=>z.map .v) (parts.toList.map fun p=>(p.1,st.ev p.2)) with
         | none=>simp[hf] at h
         | some cs=>simp only[hf,Option.some.injEq] at h;subst h;exact⟨rfl,fun d x h=>by simp at h;rw[h.1],fun s g x h=>by simp at h⟩
        ·cases h
 case makeSlice T l c =>
  simp only[dO] at h;cases dst with
  | none=>simp[cS] at h
  | some d=>cases hs:dS P T with
    | none=>simp[hs,cS] at h
    | some t=>cases hz:eH P t.1 with
      | none=>simp[hs,hz,cS] at h
      | some z =>
        simp only[hs,hz,cS] at h;split at h
        ·split at h
         ·simp only[Option.some.injEq] at h;subst h;exact⟨rfl,fun d x h=>by simp at h;rw[h.1],fun s g x h=>by simp at h⟩
         ·cases h
        ·cases h
 case makeMap T r =>
  cases r with
  | none =>
    simp only[dO] at h;cases dst with
    | none=>simp[cS] at h
    | some d=>simp only[cS,Option.some.injEq] at h;subst h;exact⟨rfl,fun d x h=>by simp at h;rw[h.1],fun s g x h=>by simp at h⟩
  | some r =>
    simp only[dO] at h;obtain⟨h1,h2,h3⟩:=val _ h
    exact⟨h1,h2,fun s g x hu=>absurd hu (h3 s g x)⟩
 case mapUpdate T m x y =>
  simp only[dO] at h;cases hs:tT P st T (st.ev m) (st.ev x) (st.ev y) with
  | none=>simp[hs] at h
  | some u =>
    obtain⟨s,g,e'⟩:=u
    simp only[hs,Option.map_some,Option.some.injEq] at h;subst h;refine⟨rfl,fun d x h=>by simp at h,fun s' g' x' hu=>⟨rfl,m,by simp[Op.operands],.inr (.inr (.inl ?_))⟩⟩
    simp only[Option.some.injEq,Prod.mk.injEq] at hu;obtain⟨rfl,rfl,_⟩:=hu
    unfold tT at hs;split at hs
    ·rename_i s1 g1 hp;rw[hp];split at hs
     ·split at hs
      ·simp only[Option.some.injEq,Prod.mk.injEq] at hs;rw[hs.1,hs.2.1]
      ·cases hs
     ·cases hs
    ·cases hs
 all_goals
  simp only[dO] at h;obtain⟨h1,h2,h3⟩:=val _ h
  exact⟨h1,h2,fun s g x hu=>absurd hu (h3 s g x)⟩
noncomputable def rX (P:Program) (call:Nat→List AV→Option AV) (ops:Array Oper) (o:Oper) (st:St):Option rT :=
 match gv ops st o.guard with
 | some b=>if b=true then dO P call o st else some { dst:=o.dst,val:=.v undef }
 | none=>none
theorem Ez (o:Oper):cH P call ops o st=(rX P call ops o st).map fun e=>e.apply st:=by
 unfold cH rX;cases gv ops st o.guard with
 | none=>rfl
 | some b=>cases b<;>rfl
theorem oZ {o:Oper} {e:rT} (h:rX P call ops o st=some e) :
 e.dst=o.dst∧(∀d x,e.new=some (d,x)→o.dst=some d)∧(∀s g x,e.dQ=some (s,g,x)→mN ops o=3∧∃p∈o.op.operands,(∃off,st.ev p=.ptr s g off)∨st.ev p=.own s g∨st.ev p=.mp s g∨(∃cs,st.ev p=.agg cs∧.own s g∈cs)∨∃o n,st.ev p=.vw s g o n):=by
 unfold rX at h;split at h
 ·split at h
  ·exact OU h
  ·simp only[Option.some.injEq] at h;subst h;exact⟨rfl,fun d x h=>by simp at h,fun s g x h=>by simp at h⟩
 ·cases h
theorem Tj (hp:BT st) {x y:Oper} {ex:rT} (nH:sL ops x y=true∨sL ops y x=true) (Lm:∀t,mL st.aQ (st.env t)) (hx:rX P call ops x st=some ex) :
 rX P call ops y (ex.apply st)=rX P call ops y st:=by
 obtain⟨sd,sn,su⟩:=oZ hx
 have l6:(∀d,x.dst=some d→d ∉ y.looksAt ops)∧(∀d,x.dst=some d→y.dst≠some d):=by
  rcases nH with h|h
  ·simp only[sL,Bool.and_eq_true] at h;obtain⟨h1,h2,_⟩:=Oper.apart_spec h.1
   exact⟨h1,h2⟩
  ·simp only[sL,Bool.and_eq_true] at h;obtain⟨_,h2,h3⟩:=Oper.apart_spec h.1
   exact⟨h3,fun d hd hy=>h2 d hy hd⟩
 have henv:∀t,t∈y.looksAt ops→(ex.apply st).env t=st.env t:=fun t ht=>by
  rw[oP,if_neg];intro h;rw[sd] at h;exact l6.1 t h ht
 have AY:∀p∈y.op.operands,(ex.apply st).ev p=st.ev p:=fun p hp=>by
  cases p with
  | tmp t=>exact henv t (by unfold Oper.looksAt;exact List.mem_append_left _ (List.mem_filterMap.2 ⟨.tmp t,by simpa using hp,rfl⟩))
  | _=>rfl
 have Z0:gv ops (ex.apply st) y.guard=gv ops st y.guard:=Y8 fun j want d hg hd=>henv d (by
  unfold Oper.looksAt;apply List.mem_append_right
  rw[hg];simp[hd])
 have hcnt:∀d,y.dst=some d→(ex.apply st).aQ d=st.aQ d:=fun d hd=>by
  rw[lK];split
  ·rename_i d' z hn
   have:=sn d' z hn
   rw[if_neg];rintro rfl
   exact l6.2 d this hd
  ·rfl
 have Uf:∀p∈y.op.operands,mL st.aQ (st.ev p):=fun p hp=>by
  cases p with
  | tmp t=>exact Lm t
  | const v=>exact⟨⟨fun _ _=>False,fun _ _=>undef,st.aQ⟩,v,rfl,.v v⟩
  | global g=>exact⟨⟨fun _ _=>False,fun _ _=>undef,st.aQ⟩,_,rfl,.v _⟩
  | func f=>exact⟨⟨fun _ _=>False,fun _ _=>undef,st.aQ⟩,_,rfl,.v _⟩
 have qH:dO P call y (ex.apply st)=dO P call y st:=by
  by_cases h3:mN ops x=3
  ·refine IC (ops:=ops) ?_ AY hcnt
   have hle:mN ops y=0∨mN ops y=1∨mN ops y=2∨mN ops y=3∨mN ops y=4:=by
    unfold mN;split<;>(try split)<;>(try split)<;>(try split)<;>simp
   rcases nH with h|h<;>simp only[sL,Bool.and_eq_true,h3] at h<;>rcases hle with e|e|e|e|e<;>simp[e] at h ⊢
  ·have hnu:ex.dQ=none:=by
    cases hu:ex.dQ with
    | none=>rfl
    | some sgx=>exact absurd (su sgx.1 sgx.2.1 sgx.2.2 hu).1 h3
   refine OT hp AY Uf (fun s g bA=>?_) hcnt
   rw[sY,hnu];split
   ·rename_i d z hn;rw[if_neg];rintro⟨rfl,h,_⟩
    omega
   ·rfl
 unfold rX;rw[Z0,qH]
theorem ID {o:Oper} {e:rT} {s g:Nat} {z:Option nU} (Lm:∀t,mL st.aQ (st.env t)) (h:rX P call ops o st=some e) (hu:e.dQ=some (s,g,z)):g<st.aQ s:=by
 obtain⟨_,_,su⟩:=oZ h
 obtain⟨_,p,hp,hv⟩:=su s g z hu
 have Uf:mL st.aQ (st.ev p):=by
  cases p with
  | tmp t=>exact Lm t
  | const v=>exact⟨⟨fun _ _=>False,fun _ _=>undef,st.aQ⟩,v,rfl,.v v⟩
  | global g=>exact⟨⟨fun _ _=>False,fun _ _=>undef,st.aQ⟩,_,rfl,.v _⟩
  | func f=>exact⟨⟨fun _ _=>False,fun _ _=>undef,st.aQ⟩,_,rfl,.v _⟩
 rcases hv with ⟨off,hv⟩|hv|hv|⟨cs,hv,hm⟩|⟨o,n,hv⟩
 ·rw[hv] at Uf;exact Uf.ptr
 ·rw[hv] at Uf;exact Uf.own
 ·rw[hv] at Uf;exact Uf.mp
 ·rw[hv] at Uf;exact (Uf.agg _ hm).own
 ·rw[hv] at Uf;exact Uf.vw
theorem aC5 (hp:BT st) {x y:Oper} (nH:sL ops x y=true) (Lm:∀t,mL st.aQ (st.env t)) {s1 s2:St} (hx:cH P call ops x st=some s1) (hy:cH P call ops y s1=some s2) :
 ∃s3,cH P call ops y st=some s3∧cH P call ops x s3=some s2:=by
 rw[Ez] at hx hy;cases hex:rX P call ops x st with
 | none=>simp[hex] at hx
 | some ex =>
   simp only[hex,Option.map_some,Option.some.injEq] at hx;subst hx;rw[Tj hp (.inl nH) Lm hex] at hy;cases l7:rX P call ops y st with
   | none=>simp[l7] at hy
   | some ey =>
     simp only[l7,Option.map_some,Option.some.injEq] at hy;subst hy;refine⟨ey.apply st,by rw[Ez,l7];rfl, ?_⟩
     rw[Ez,Tj hp (.inr nH) Lm l7,hex];simp only[Option.map_some,Option.some.injEq];obtain⟨dx,nx,ux⟩:=oZ hex
     obtain⟨dy,ny,uy⟩:=oZ l7
     have hd:∀d,x.dst=some d→y.dst≠some d:=by
      simp only[sL,Bool.and_eq_true] at nH;exact (Oper.apart_spec nH.1).2.1
     have zD:¬(ex.dQ≠none∧ey.dQ≠none):=by
      rintro⟨h1,h2⟩
      cases hu:ex.dQ with
      | none=>exact h1 hu
      | some a=>cases hv:ey.dQ with
        | none=>exact h2 hv
        | some b =>
          have e1:=(ux a.1 a.2.1 a.2.2 hu).1
          have e2:=(uy b.1 b.2.1 b.2.2 hv).1
          simp[sL,e1,e2] at nH
     apply Y9
     ·funext t
      rw[oP,oP,oP,oP,dx,dy];by_cases h1:x.dst=some t
      ·rw[if_pos h1,if_pos h1,if_neg (hd t h1)]
      ·rw[if_neg h1,if_neg h1]
     ·funext s g
      rw[sY,sY,sY,sY];have cx:∀d z,ey.new=some (d,z)→(ex.apply st).aQ d=st.aQ d:=fun d z hn=>by
       rw[lK];split
       ·rename_i d' z' Gj
        rw[if_neg];rintro rfl
        exact hd _ (nx _ _ Gj) (ny _ _ hn)
       ·rfl
      have cy:∀d z,ex.new=some (d,z)→(ey.apply st).aQ d=st.aQ d:=fun d z hn=>by
       rw[lK];split
       ·rename_i d' z' Gj
        rw[if_neg];rintro rfl
        exact hd _ (nx _ _ hn) (ny _ _ Gj)
       ·rfl
      cases E9:ex.new with
      | none =>
        cases SX:ey.new with
        | none =>
          cases hux:ex.dQ with
          | none=>rfl
          | some a=>cases huy:ey.dQ with
            | none=>rfl
            | some b=>exact absurd ⟨by rw[hux];simp,by rw[huy];simp⟩ zD
        | some b =>
          obtain⟨d,z⟩:=b
          simp only[cx d z SX];cases hux:ex.dQ with
          | none=>rfl
          | some a =>
            obtain⟨s0,g0,e0⟩:=a
            have bA:=ID Lm hex hux
            cases huy:ey.dQ with
            | none =>
              simp only
              by_cases h1:s=d∧st.aQ d≤g∧g-st.aQ d<z.length
              ·rw[if_neg (by obtain⟨rfl,ha,hb⟩:=h1;rintro⟨rfl,rfl⟩;omega),if_pos h1,if_pos h1]
              ·rw[if_neg h1,if_neg h1]
            | some b=>exact absurd ⟨by rw[hux];simp,by rw[huy];simp⟩ zD
      | some a =>
        obtain⟨d,z⟩:=a
        cases SX:ey.new with
        | none =>
          simp only[cy d z E9];cases huy:ey.dQ with
          | none=>rfl
          | some a =>
            obtain⟨s0,g0,e0⟩:=a
            have bA:=ID Lm l7 huy
            cases hux:ex.dQ with
            | none =>
              simp only
              by_cases h1:s=d∧st.aQ d≤g∧g-st.aQ d<z.length
              ·rw[if_pos h1,if_neg (by obtain⟨rfl,ha,hb⟩:=h1;rintro⟨rfl,rfl⟩;omega),if_pos h1]
              ·rw[if_neg h1,if_neg h1]
            | some b=>exact absurd ⟨by rw[hux];simp,by rw[huy];simp⟩ zD
        | some b =>
          obtain⟨d',z'⟩:=b
          simp only[cy d z E9,cx d' z' SX];have F0:d≠d':=by
           rintro rfl
           exact hd _ (nx _ _ E9) (ny _ _ SX)
          cases hux:ex.dQ with
          | none =>
            cases huy:ey.dQ with
            | none =>
              simp only
              by_cases h1:s=d∧st.aQ d≤g∧g-st.aQ d<z.length
              ·rw[if_pos h1,if_pos h1,if_neg (fun h=>F0 (h1.1.symm.trans h.1))]
              ·rw[if_neg h1,if_neg h1]
            | some b =>
              obtain⟨s0,g0,e0⟩:=b
              have bA:=ID Lm l7 huy
              simp only
              by_cases h1:s=d∧st.aQ d≤g∧g-st.aQ d<z.length
              ·rw[if_pos h1,if_pos h1,if_neg (fun h=>F0 (h1.1.symm.trans h.1)),if_neg (by obtain⟨rfl,ha,hb⟩:=h1;rintro⟨rfl,rfl⟩;omega)]
              ·rw[if_neg h1,if_neg h1]
          | some a =>
            obtain⟨s0,g0,e0⟩:=a
            have bA:=ID Lm hex hux
            cases huy:ey.dQ with
            | none =>
              simp only
              by_cases h1:s=d∧st.aQ d≤g∧g-st.aQ d<z.length
              ·rw[if_pos h1,if_pos h1,if_neg (fun h=>F0 (h1.1.symm.trans h.1))]
              ·rw[if_neg h1,if_neg h1];by_cases h2:s=d'∧st.aQ d'≤g∧g-st.aQ d'<z'.length
               ·rw[if_pos h2,if_neg (by obtain⟨rfl,ha,hb⟩:=h2;rintro⟨rfl,rfl⟩;omega),if_pos h2]
               ·rw[if_neg h2,if_neg h2]
            | some b=>exact absurd ⟨by rw[hux];simp,by rw[huy];simp⟩ zD
     ·funext s
      cases E9:ex.new with
      | none=>cases SX:ey.new<;>simp only[lK,E9,SX]
      | some a =>
        obtain⟨d,z⟩:=a
        cases SX:ey.new with
        | none=>simp only[lK,E9,SX]
        | some b =>
          obtain⟨d',z'⟩:=b
          have F0:d≠d':=by
           rintro rfl
           exact hd _ (nx _ _ E9) (ny _ _ SX)
          simp only[lK,E9,SX];rw[if_neg F0,if_neg (Ne.symm F0)];by_cases h1:s=d
          ·subst h1;rw[if_neg F0,if_pos rfl,if_neg F0]
          ·rw[if_neg h1,if_neg h1]
def Hw (st st':St) (x:AV):Prop:=∀s g,keyOf x=some (some (s,g))→st'.heap s g=st.heap s g
theorem VU {x:AV} (h:Hw st st' x):qP st' x=qP st x:=by
 cases x<;>simp only[qP]
 rw[h _ _ rfl]
theorem wH {x:AV} (h:Hw st st' x):aW st' x=aW st x:=by
 cases x
 case own=>simp only[aW,h _ _ rfl]
 case vw=>simp only[aW,h _ _ rfl]
 case v y =>
  cases y
  case slice p n c=>cases p<;>cases n<;>cases c<;>rfl
  all_goals rfl
 all_goals rfl
theorem Yn {T:Nat} {x i:AV} (h:Hw st st' x):bH P st' T x i=bH P st T x i:=by
 unfold bH;cases x<;>try rfl
 simp only[h _ _ rfl]
theorem VV {T:Nat} {x y:AV} (h:Hw st st' x):pZ P st' T x y=pZ P st T x y:=by
 unfold pZ;cases x<;>try rfl
 simp only[h _ _ rfl]
theorem VW {T:Nat} {x:AV} {lo hi:Option Operand} (hx:Hw st st' x) (hl:∀p,lo=some p→st'.ev p=st.ev p) (Cs:∀p,hi=some p→st'.ev p=st.ev p):dA P st' T x lo hi=dA P st T x lo hi :=
 Yk (fun s g h=>by
  rcases h with ⟨o,rfl⟩|rfl|⟨o,n,rfl⟩<;>exact hx _ _ rfl) hl Cs
theorem OV {T:Nat} {s x:AV} (hs:Hw st st' s) (hx:Hw st st' x):dH P st' T s x=dH P st T s x:=by
 unfold dH;rw[wH hx];cases s
 case own=>simp only[hs _ _ rfl]
 case v y =>
  cases y
  case slice p n c=>cases p<;>cases n<;>cases c<;>rfl
  all_goals rfl
 all_goals rfl
theorem OW {T:Nat} {s x:AV} (hs:Hw st st' s) (hx:Hw st st' x):nX P st' T s x=nX P st T s x:=by
 unfold nX;rw[wH hx];cases dS P T with
 | none=>rfl
 | some t=>cases aW st x with
   | none=>rfl
   | some mn =>
     cases s<;>try rfl
     case vw s g o n =>
      cases o with
      | zero=>simp only[hs _ _ rfl]
      | succ o=>rfl
theorem VX {r:AV} {dst:Option Nat} (hc:∀d,dst=some d→st'.aQ d=st.aQ d):jC r st' dst=jC r st dst:=by
 unfold jC;cases dst with
 | none=>rfl
 | some d=>simp only[hc d rfl]
theorem VY {g:Nat} {x:AV} {args:List AV} {dst:Option Nat} (hx:Hw st st' x) (hc:∀d,dst=some d→st'.aQ d=st.aQ d):lL call g (x :: args) st' dst=lL call g (x :: args) st dst:=by
 unfold lL;split
 ·rename_i s k rest heq;simp only[List.cons.injEq] at heq;obtain⟨rfl,rfl⟩:=heq
  rw[hx _ _ rfl];cases dst with
  | none=>rfl
  | some d=>simp only[hc d rfl]
 ·split
  ·rename_i hf;unfold aN;rw[if_pos hf,if_pos hf];have h2:∀r,jC r st' dst=jC r st dst:=fun r=>VX hc
   simp only[h2]
  ·rfl
theorem CA {o:Oper} {aS:List Nat} (h:gZ o=some aS):o.guard=none:=by
 unfold gZ at h;split at h
 ·cases h
 ·assumption
theorem IE {o:Oper} {aS:List Nat} (ha:gZ o=some aS):rX P call ops o st=dO P call o st:=by
 unfold rX;rw[CA ha];rfl
inductive Tk:Op→List Nat→Prop
 | load (T a:Nat):Tk (.load T (.tmp a)) [a]
 | store (T a:Nat) (x:Operand):Tk (.store T (.tmp a) x) [a]
 | indexAddr (T a:Nat) (x:Operand):Tk (.indexAddr T (.tmp a) x) [a]
 | slice (T a:Nat) (lo hi mx:Option Operand):Tk (.slice T (.tmp a) lo hi mx) [a]
 | len (a:Nat) (args:Array Operand) (tL:Array Nat) (h:args.toList=[.tmp a]):Tk (.call ⟨.builtin .len,args,tL⟩) [a]
 | append (a b:Nat) (args:Array Operand) (tL:Array Nat) (h:args.toList=[.tmp a,.tmp b]):Tk (.call ⟨.builtin .append,args,tL⟩) [a,b]
 | mv (g a:Nat) (r:List Operand) (args:Array Operand) (tL:Array Nat) (h:args.toList=.tmp a :: r) (hg:Ext.mv g=true):Tk (.call ⟨.value (.func g),args,tL⟩) [a]
theorem Ov {o:Oper} {aS:List Nat} (h:gZ o=some aS):Tk o.op aS:=by
 unfold gZ at h;split at h
 ·cases h
 ·split at h
  ·rename_i T a ho;simp only[Option.some.injEq] at h;subst h;rw[ho];exact .load T a
  ·rename_i T a x ho;simp only[Option.some.injEq] at h;subst h;rw[ho];exact .store T a x
  ·rename_i T a x ho;simp only[Option.some.injEq] at h;subst h;rw[ho];exact .indexAddr T a x
  ·rename_i T a lo hi mx ho;simp only[Option.some.injEq] at h;subst h;rw[ho];exact .slice T a lo hi mx
  ·rename_i args tL ho;split at h
   ·rename_i a hl;simp only[Option.some.injEq] at h;subst h;rw[ho];exact .len a args tL hl
   ·cases h
  ·rename_i args tL ho;split at h
   ·rename_i a b hl;simp only[Option.some.injEq] at h;subst h;rw[ho];exact .append a b args tL hl
   ·cases h
  ·rename_i g args tL ho;split at h
   ·rename_i a r hl;split at h
    ·rename_i hg;simp only[Option.some.injEq] at h;subst h;rw[ho];exact .mv g a r args tL hl hg
    ·cases h
   ·cases h
  ·cases h
theorem F1 {T s g:Nat} {p x:AV} {e':nU} (hs:pZ P st T p x=some (s,g,e')):∃o,p=.ptr s g o:=by
 unfold pZ at hs;split at hs
 ·rename_i s1 g1 o1;split at hs
  ·split at hs
   ·split at hs
    ·split at hs
     ·simp only[Option.some.injEq,Prod.mk.injEq] at hs;obtain⟨rfl,rfl,_⟩:=hs;exact⟨_,rfl⟩
     ·cases hs
    ·split at hs
     ·simp only[Option.some.injEq,Prod.mk.injEq] at hs;obtain⟨rfl,rfl,_⟩:=hs;exact⟨_,rfl⟩
     ·cases hs
    ·cases hs
   ·cases hs
  ·cases hs
 ·cases hs
theorem VZ {T s g:Nat} {p x:AV} {r:nU} (nH:dH P st T p x=some (some (s,g),r)):p=.own s g:=by
 unfold dH at nH;split at nH
 ·split at nH
  ·split at nH
   ·split at nH
    ·split at nH<;>simp at nH
    ·rename_i s3 g3;split at nH
     ·split at nH
      ·simp only[Option.some.injEq,Prod.mk.injEq] at nH;obtain⟨⟨rfl,rfl⟩,_⟩:=nH
       rfl
      ·cases nH
     ·cases nH
    ·split at nH<;>simp at nH
    ·cases nH
   ·cases nH
  ·cases nH
 ·cases nH
theorem Rn {o:Oper} {aS:List Nat} {e:rT} (ha:gZ o=some aS) (h:rX P call ops o st=some e) :
 ∀s g z,e.dQ=some (s,g,z)→∃a∈aS,keyOf (st.env a)=some (some (s,g)):=by
 rw[IE ha] at h;have hk:=Ov ha
 clear ha
 obtain⟨dst,op,type,pos,after,guard⟩:=o
 have val:∀(v:Option AV),(v.map fun x=>({ dst:=dst,val:=x }:rT))=some e→e.dQ=none:=fun v hv=>by
  cases v with
  | none=>cases hv
  | some v=>simp only[Option.map_some,Option.some.injEq] at hv;subst hv;rfl
 intro s g z hu;cases hk
 case load T a=>simp only[dO] at h;rw[val _ h] at hu;cases hu
 case indexAddr T a x=>simp only[dO] at h;rw[val _ h] at hu;cases hu
 case slice T a lo hi mx=>simp only[dO] at h;rw[val _ h] at hu;cases hu
 case len a args tL hl =>
  simp only[dO,iT,hl] at h;split at h
  ·split at h
   ·simp only[Option.some.injEq] at h;subst h;cases hu
   ·cases h
  ·cases h
 case store T a x =>
  simp only[dO] at h;cases hs:pZ P st T (st.ev (.tmp a)) (st.ev x) with
  | none=>simp[hs] at h
  | some u =>
    obtain⟨s',g',e'⟩:=u
    simp only[hs,Option.map_some,Option.some.injEq] at h;subst h;simp only[Option.some.injEq,Prod.mk.injEq] at hu;obtain⟨rfl,rfl,_⟩:=hu
    obtain⟨o1,ho1⟩:=F1 hs
    exact⟨a,by simp,by rw[show st.env a=st.ev (.tmp a) from rfl,ho1];rfl⟩
 case append a b args tL hl =>
  simp only[dO,iT,hl] at h;cases dst with
  | none=>simp[cS] at h
  | some d =>
    simp only[cS] at h;split at h
    ·rename_i s0 x0 T T' heq _
     simp only[List.cons.injEq,and_true] at heq;obtain⟨rfl,rfl⟩:=heq
     split at h
     ·split at h
      ·cases nH:nX P st T (st.ev (.tmp a)) (st.ev (.tmp b)) with
       | none=>simp[nH] at h
       | some u =>
       simp only[nH,Option.map_some,Option.some.injEq] at h;subst h;simp only[Option.some.injEq,Prod.mk.injEq] at hu;obtain⟨rfl,rfl,rfl⟩:=hu
       obtain⟨n0,zV⟩:=Ym nH
       exact⟨a,by simp,by rw[show st.env a=st.ev (.tmp a) from rfl,zV];rfl⟩
      split at h
      ·simp only[Option.some.injEq] at h;subst h;cases hu
      cases nH:dH P st T (st.ev (.tmp a)) (st.ev (.tmp b)) with
      | none=>simp[nH] at h
      | some ur =>
        obtain⟨u,r⟩:=ur
        simp only[nH,Option.some.injEq] at h;subst h;cases u with
        | none=>cases hu
        | some p =>
          simp only[Option.map_some,Option.some.injEq,Prod.mk.injEq] at hu;obtain⟨rfl,rfl,_⟩:=hu
          exact⟨a,by simp,by rw[show st.env a=st.ev (.tmp a) from rfl,VZ nH];rfl⟩
     ·cases h
    ·cases h
 case mv g' a r args tL hl hg =>
  simp only[dO,iT,nY] at h;rw[if_pos hg] at h;obtain⟨_,_,h3⟩:=Ou h
  have:=h3 s g z hu
  rw[hl] at this;simp only[List.map_cons,List.head?_cons,Option.some.injEq,St.ev] at this;exact⟨a,by simp,by rw[this];rfl⟩
theorem mem_congr {o:Oper} {aS:List Nat} (ha:gZ o=some aS) (AY:∀p∈o.op.operands,st'.ev p=st.ev p) (hh:∀a∈aS,Hw st st' (st.env a)) (hc:∀d,o.dst=some d→st'.aQ d=st.aQ d) :
 rX P call ops o st'=rX P call ops o st:=by
 rw[IE ha,IE ha];have hk:=Ov ha
 clear ha
 obtain⟨dst,op,type,pos,after,guard⟩:=o
 simp only at hk AY hc
 cases hk
 case load T a =>
  have h1:st'.env a=st.env a:=AY (.tmp a) (by simp[Op.operands])
  simp only[dO,iX,St.ev,h1,VU (hh a (by simp))]
 case store T a x =>
  have h1:st'.env a=st.env a:=AY (.tmp a) (by simp[Op.operands])
  have h2:=AY x (by simp[Op.operands])
  have h3:st'.ev (.tmp a)=st.ev (.tmp a):=h1
  simp only[dO,h2,h3];rw[show st.ev (.tmp a)=st.env a from rfl,VV (hh a (by simp))]
 case indexAddr T a x =>
  have h1:st'.env a=st.env a:=AY (.tmp a) (by simp[Op.operands])
  have h2:=AY x (by simp[Op.operands])
  have h3:st'.ev (.tmp a)=st.ev (.tmp a):=h1
  simp only[dO,iX,h2,h3];rw[show st.ev (.tmp a)=st.env a from rfl,Yn (hh a (by simp))]
 case slice T a lo hi mx =>
  have h1:st'.env a=st.env a:=AY (.tmp a) (by simp[Op.operands])
  have h3:st'.ev (.tmp a)=st.ev (.tmp a):=h1
  have hl:∀p,lo=some p→st'.ev p=st.ev p:=fun p hp=>AY p (by subst hp;simp[Op.operands])
  have Cs:∀p,hi=some p→st'.ev p=st.ev p:=fun p hp=>AY p (by subst hp;simp[Op.operands])
  have hm:∀p,mx=some p→st'.ev p=st.ev p:=fun p hp=>AY p (by subst hp;simp[Op.operands])
  have hS:=VW (P:=P) (T:=T) (hh a (by simp)) hl Cs
  cases mx with
  | none =>
    simp only[dO,iX,h3];rw[show st.ev (.tmp a)=st.env a from rfl,hS]
  | some m =>
    cases hi with
    | none=>rfl
    | some h =>
      simp only[dO,iX,h3];rw[Ti (fun s g hx=>hh a (by simp) s g (by rw[show st.env a=st.ev (.tmp a) from rfl,hx];rfl)) hl (Cs h rfl) (hm m rfl)]
 case len a args tL hl =>
  have h1:st'.env a=st.env a:=AY (.tmp a) (by simp[Op.operands,Call.operands,← Array.mem_toList_iff,hl])
  have h3:st'.ev (.tmp a)=st.ev (.tmp a):=h1
  have hv:aW st' (st'.ev (.tmp a))=aW st (st.ev (.tmp a)):=by rw[h3];exact wH (hh a (by simp))
  simp only[dO,iT,hl];cases tL.toList with
  | nil=>rfl
  | cons T r=>cases r with
    | nil=>simp only[hv]
    | cons _ _=>rfl
 case append a b args tL hl =>
  have h1:st'.ev (.tmp a)=st.ev (.tmp a):=AY (.tmp a) (by simp[Op.operands,Call.operands,← Array.mem_toList_iff,hl])
  have h2:st'.ev (.tmp b)=st.ev (.tmp b):=AY (.tmp b) (by simp[Op.operands,Call.operands,← Array.mem_toList_iff,hl])
  have hV:∀T,nX P st' T (st.ev (.tmp a)) (st.ev (.tmp b))=nX P st T (st.ev (.tmp a)) (st.ev (.tmp b)):=fun T=>OW (hh a (by simp)) (hh b (by simp))
  have hA:∀T,dH P st' T (st.ev (.tmp a)) (st.ev (.tmp b))=dH P st T (st.ev (.tmp a)) (st.ev (.tmp b)):=fun T=>OV (hh a (by simp)) (hh b (by simp))
  simp only[dO,iT,hl];cases dst with
  | none=>rfl
  | some d =>
    simp only[cS,hc d rfl];cases tL.toList with
    | nil=>rfl
    | cons T r=>cases r with
      | nil=>rfl
      | cons T' r'=>cases r' with
        | nil =>
          have hn:Gn P st' T (st'.ev (.tmp a)) (st'.ev (.tmp b))=Gn P st T (st.ev (.tmp a)) (st.ev (.tmp b)):=by
           have h3:aW st' (st.ev (.tmp b))=aW st (st.ev (.tmp b)):=wH (hh b (by simp))
           simp only[Gn,h1,h2,h3]
          simp only[];rw[hn,h1,h2,hA,hV]
        | cons _ _=>rfl
 case mv g' a r args tL hl hg =>
  have he:∀p∈args.toList,st'.ev p=st.ev p:=fun p hp=>AY p (by simp[Op.operands,Call.operands,← Array.mem_toList_iff,hp])
  have h1:args.toList.map st'.ev=args.toList.map st.ev:=List.map_congr_left he
  simp only[dO,iT,nY];rw[if_pos hg,if_pos hg,h1,hl];simp only[List.map_cons];exact VY (hh a (by simp)) hc
theorem Z1 {x y:AV} (h:fJ x y∨fJ y x) {k k':Nat × Nat} (hx:keyOf x=some (some k)) (hy:keyOf y=some (some k')):k≠k':=by
 unfold fJ at h;rw[hx,hy] at h;rcases h with h|h
 ·exact h
 ·exact fun e=>h e.symm
theorem Z2 {aQ:Nat→Nat} {x:AV} {s g:Nat} (h:mL aQ x) (hk:keyOf x=some (some (s,g))):g<aQ s:=by
 cases x<;>simp only[keyOf,Option.some.injEq,Prod.mk.injEq,reduceCtorEq] at hk
 ·obtain⟨rfl,rfl⟩:=hk;exact h.ptr
 ·obtain⟨rfl,rfl⟩:=hk;exact h.own
 ·obtain⟨rfl,rfl⟩:=hk;exact h.vw
theorem FM {x y:Oper} {aS bs:List Nat} {ex:rT} (Lm:∀t,mL st.aQ (st.env t)) (hax:gZ x=some aS) (hay:gZ y=some bs) (l6:∀d,x.dst=some d→d ∉ y.looksAt ops) (lE:∀d,x.dst=some d→y.dst≠some d)
 (hf:∀a∈aS,∀b∈bs,fJ (st.env a) (st.env b)∨fJ (st.env b) (st.env a)) (hx:rX P call ops x st=some ex):rX P call ops y (ex.apply st)=rX P call ops y st:=by
 obtain⟨sd,sn,_⟩:=oZ hx
 have su:=Rn hax hx
 refine mem_congr hay (fun p hp=>?_) (fun b hb s g hk=>?_) fun d hd=>?_
 ·cases p with
  | tmp t =>
    show (ex.apply st).env t=st.env t
    rw[oP,if_neg];intro h;rw[sd] at h;exact l6 t h (by unfold Oper.looksAt;exact List.mem_append_left _ (List.mem_filterMap.2 ⟨.tmp t,by simpa using hp,rfl⟩))
  | _=>rfl
 ·have bA:=Z2 (Lm b) hk
  have hupd:(match ex.dQ with|some (s0,g0,y)=>if s=s0∧g=g0 then y else st.heap s g|none=>st.heap s g)=st.heap s g:=by
   cases hu:ex.dQ with
   | none=>rfl
   | some u =>
     obtain⟨s0,g0,z⟩:=u
     obtain⟨a,ha,hka⟩:=su s0 g0 z hu
     simp only
     rw[if_neg];rintro⟨rfl,rfl⟩
     exact Z1 (hf a ha b hb) hka hk rfl
  rw[sY];split
  ·rename_i d es hn;rw[if_neg (by rintro⟨rfl,h,_⟩;omega)]
   exact hupd
  ·exact hupd
 ·rw[lK];split
  ·rename_i d' z hn
   rw[if_neg];rintro rfl
   exact lE _ (sn _ _ hn) hd
  ·rfl
theorem Z3 {α:Type} {A B C D:Prop} [Decidable A] [Decidable B] [Decidable C] [Decidable D] {na nb uc ud h:α} (h1:A→¬B) (h2:A→¬D) (h3:C→¬B) (h4:C→¬D) :
 (if B then nb else if D then ud else if A then na else if C then uc else h)=(if A then na else if C then uc else if B then nb else if D then ud else h):=by
 by_cases a:A
 ·rw[if_neg (h1 a),if_neg (h2 a),if_pos a,if_pos a]
 ·rw[if_neg a,if_neg a];by_cases c:C
  ·rw[if_neg (h3 c),if_neg (h4 c),if_pos c,if_pos c]
  ·rw[if_neg c,if_neg c]
def Ro (e:rT) (aQ:Nat→Nat) (s g:Nat):Prop:=∃d es,e.new=some (d,es)∧s=d∧aQ d≤g∧g-aQ d<es.length
def WA (e:rT) (s g:Nat):Prop:=∃z,e.dQ=some (s,g,z)
def Hx (e:rT) (aQ:Nat→Nat) (g:Nat):Option nU:=match e.new with|some (d,es)=>es[g-aQ d]? | none=>none
def WB (e:rT):Option nU:=match e.dQ with|some (_,_,z)=>z|none=>none
theorem Bm (e:rT) (st:St) (s g:Nat):(e.apply st).heap s g=if Ro e st.aQ s g then Hx e st.aQ g else if WA e s g then WB e else st.heap s g:=by
 have hu:(match e.dQ with|some (s0,g0,y)=>if s=s0∧g=g0 then y else st.heap s g|none=>st.heap s g)=if WA e s g then WB e else st.heap s g:=by
  unfold WA WB;cases hu:e.dQ with
  | none=>simp
  | some u =>
    obtain⟨s0,g0,z⟩:=u
    simp only
    by_cases h:s=s0∧g=g0
    ·obtain⟨rfl,rfl⟩:=h
     rw[if_pos ⟨rfl,rfl⟩,if_pos ⟨z,rfl⟩]
    ·rw[if_neg h,if_neg];rintro⟨z',h'⟩
     simp only[Option.some.injEq,Prod.mk.injEq] at h'
     exact h ⟨h'.1.symm,h'.2.1.symm⟩
 rw[sY];unfold Ro Hx;cases hn:e.new with
 | none=>simp only;rw[if_neg (by rintro⟨d,es,h,_⟩;cases h)];exact hu
 | some p =>
   obtain⟨d,es⟩:=p
   simp only
   by_cases h:s=d∧st.aQ d≤g∧g-st.aQ d<es.length
   ·rw[if_pos h,if_pos ⟨d,es,rfl,h⟩]
   ·rw[if_neg h,if_neg]
    ·exact hu
    ·rintro⟨d',es',h',h2⟩
     simp only[Option.some.injEq,Prod.mk.injEq] at h'
     obtain⟨rfl,rfl⟩:=h'
     exact h h2
theorem Z4 {x y:Oper} {aS bs:List Nat} (Lm:∀t,mL st.aQ (st.env t)) (hax:gZ x=some aS) (hay:gZ y=some bs) (nH:Oper.apart ops x y=true) (hf:Ku st aS bs) {s1 s2:St} (hx:cH P call ops x st=some s1) (hy:cH P call ops y s1=some s2) :
 ∃s3,cH P call ops y st=some s3∧cH P call ops x s3=some s2:=by
 obtain⟨l1,l2,l3⟩:=Oper.apart_spec nH
 have l2':∀d,y.dst=some d→x.dst≠some d:=fun d hd hx=>l2 d hx hd
 rw[Ez] at hx hy;cases hex:rX P call ops x st with
 | none=>simp[hex] at hx
 | some ex =>
   simp only[hex,Option.map_some,Option.some.injEq] at hx;subst hx;rw[FM Lm hax hay l1 l2 (fun a ha b hb=>.inl (hf a ha b hb)) hex] at hy
   cases l7:rX P call ops y st with
   | none=>simp[l7] at hy
   | some ey =>
     simp only[l7,Option.map_some,Option.some.injEq] at hy;subst hy;refine⟨ey.apply st,by rw[Ez,l7];rfl, ?_⟩
     rw[Ez,FM Lm hay hax l3 l2' (fun b hb a ha=>.inr (hf a ha b hb)) l7,hex]
     simp only[Option.map_some,Option.some.injEq];obtain⟨dx,nx,_⟩:=oZ hex
     obtain⟨dy,ny,_⟩:=oZ l7
     have ux:=Rn hax hex
     have uy:=Rn hay l7
     have cx:∀d z,ey.new=some (d,z)→(ex.apply st).aQ d=st.aQ d:=fun d z hn=>by
      rw[lK];split
      ·rename_i d' z' Gj
       rw[if_neg];rintro rfl
       exact l2 _ (nx _ _ Gj) (ny _ _ hn)
      ·rfl
     have cy:∀d z,ex.new=some (d,z)→(ey.apply st).aQ d=st.aQ d:=fun d z hn=>by
      rw[lK];split
      ·rename_i d' z' Gj
       rw[if_neg];rintro rfl
       exact l2 _ (nx _ _ hn) (ny _ _ Gj)
      ·rfl
     apply Y9
     ·funext t
      rw[oP,oP,oP,oP,dx,dy];by_cases h1:x.dst=some t
      ·rw[if_pos h1,if_pos h1,if_neg (l2 t h1)]
      ·rw[if_neg h1,if_neg h1]
     ·funext s g
      have nyE:Ro ey (ex.apply st).aQ s g↔Ro ey st.aQ s g:=by
       constructor
       ·rintro⟨d,es,h,h2⟩;rw[cx d es h] at h2;exact⟨d,es,h,h2⟩
       ·rintro⟨d,es,h,h2⟩;rw[← cx d es h] at h2;exact⟨d,es,h,h2⟩
      have nxE:Ro ex (ey.apply st).aQ s g↔Ro ex st.aQ s g:=by
       constructor
       ·rintro⟨d,es,h,h2⟩;rw[cy d es h] at h2;exact⟨d,es,h,h2⟩
       ·rintro⟨d,es,h,h2⟩;rw[← cy d es h] at h2;exact⟨d,es,h,h2⟩
      have vyE:Hx ey (ex.apply st).aQ g=Hx ey st.aQ g:=by
       unfold Hx;cases hn:ey.new with
       | none=>rfl
       | some p=>simp only[cx p.1 p.2 hn]
      have vxE:Hx ex (ey.apply st).aQ g=Hx ex st.aQ g:=by
       unfold Hx;cases hn:ex.new with
       | none=>rfl
       | some p=>simp only[cy p.1 p.2 hn]
      rw[Bm,Bm,Bm,Bm];simp only[nyE,nxE,vyE,vxE];symm
      have idk:∀a s g,keyOf (st.env a)=some (some (s,g))→g<st.aQ s:=fun a s g h=>Z2 (Lm a) h
      refine Z3 ?_ ?_ ?_ ?_
      ·rintro⟨d,es,h,rfl,_⟩ ⟨d',es',h',rfl,_⟩
       exact l2 _ (nx _ _ h) (ny _ _ h')
      ·rintro⟨d,es,h,rfl,h1,_⟩ ⟨z,h'⟩
       obtain⟨b,_,hb⟩:=uy _ _ _ h'
       have:=idk b _ _ hb
       omega
      ·rintro⟨z,h⟩ ⟨d,es,h',rfl,h1,_⟩
       obtain⟨a,_,ha⟩:=ux _ _ _ h
       have:=idk a _ _ ha
       omega
      ·rintro⟨z,h⟩ ⟨z',h'⟩
       obtain⟨a,ha,hka⟩:=ux _ _ _ h
       obtain⟨b,hb,hkb⟩:=uy _ _ _ h'
       exact Z1 (.inl (hf a ha b hb)) hka hkb rfl
     ·funext s
      rw[lK,lK];cases E9:ex.new with
      | none=>cases SX:ey.new<;>simp only[lK,E9,SX]
      | some a =>
        obtain⟨d,z⟩:=a
        cases SX:ey.new with
        | none=>simp only[lK,E9,SX]
        | some b =>
          obtain⟨d',z'⟩:=b
          have F0:d≠d':=by
           rintro rfl
           exact l2 _ (nx _ _ E9) (ny _ _ SX)
          simp only[lK,E9,SX];rw[if_neg F0,if_neg (Ne.symm F0)];by_cases h1:s=d
          ·subst h1;rw[if_neg F0,if_pos rfl,if_neg F0]
          ·rw[if_neg h1,if_neg h1]
end
end Go.Ab
end
