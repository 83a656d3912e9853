/-
  Part 3 of the proof: an evaluator of programs, its soundness, and what functions of this program compute.
-/
import Derived.Test.YtmcjkemalibacaaGreatK2
import Derived.Deep.Upon
set_option linter.all false
set_option maxRecDepth 20000
set_option maxHeartbeats 40000000
section
namespace Go.Ab
open Classical
section
variable {P:Program} {h0:Nat→Obj→Prop} {w0:World} {F:Gf} {nt:Nat} {ρ:Nat→Nat→Value} {st:St} {a:Act} {w:World} {K:Act→World→Prop} {Q:Exit→Act→World→Prop}
theorem Ek {base T ty e:Nat} {ei:TypeInfo} {ez:Value} (hT:P.underlying T=some (.slice e)) (Bf:P.info? e=some ei) (Zw:ei.zero=some ez) (Mk:ez.cells.size=ei.size) (Dp:0<ei.size)
 (wD:base≤w.heap.size) {v:Value} {n:Nat} {xs:List Value} (zG:nX w base e ei.size v n xs)
 {p:Option Addr} {m c:Nat} {news:List Value} (hl:news.length=m * ei.size) (Q8:news≠[]→∃ad,p=some ad∧∀(j:Nat) (u:Value),news[j]? = some u→w.cell? (ad.add j)=some u)
 (h1:∀u∈news,u.oneCell'=true) (h63:n+m≤maxLen) (hb:(n+m) * ei.bytes≤140737488355328) :
 ∃v' w',(Builtin.append_ #[T,T] ty #[v,.slice p m c]).run P w=.ok v' w'∧nX w' base e ei.size v' (n+m) (xs++news)∧w.grownBy w' (dD v)∧(∀b,dD v'=some b→dD v=some b∨w.heap.size≤b):=by
 by_cases hm:m=0
 ·subst hm;have hn:news=[]:=List.eq_nil_of_length_eq_zero (by simpa using hl)
  subst hn;refine⟨v,w, ?_,by simpa using zG,⟨rfl,rfl,rfl,Nat.le_refl _,fun _ _ _=>rfl⟩,fun b hb=>.inl hb⟩
  have hfc:∀(x:Value),(∃p,x=.slice p 0 c)→(Builtin.firstCells ei.size 0 x).run P w=.ok #[] w:=by
   rintro x ⟨p,rfl⟩
   cases p<;>simp[Builtin.firstCells,loadCells,loadCellsFrom]
  rcases zG.2 with ⟨q,rfl,rfl⟩|⟨g,cap,cur,rfl,_,_,Te,_⟩
  ·cases q<;>simp[Builtin.append_,aX hT,run_sizeOf w Bf,Builtin.lenOf,hfc _ ⟨p,rfl⟩,storeCells]
  ·simp[Builtin.append_,aX hT,run_sizeOf w Bf,Builtin.lenOf,hfc _ ⟨p,rfl⟩,Te,storeCells]
 ·have gT:news≠[]:=by
   intro h;subst h;have:0<m * ei.size:=Nat.mul_pos (by omega) Dp
   simp at hl
   omega
  obtain⟨ad,rfl,Xf⟩:=Q8 gT
  have hlen:(xs++news).length=(n+m) * ei.size:=by rw[List.length_append,zG.1,hl,Nat.add_mul]
  have grow:∀(ga:Addr) (cap:Nat),cap<n+m→(∀(j:Nat) (u:Value),xs[j]? = some u→w.cell? (ga.add j)=some u)→∃v' w',(Builtin.append_ #[T,T] ty #[.slice (some ga) n cap,.slice (some ad) m c]).run P w=.ok v' w' ∧
   nX w' base e ei.size v' (n+m) (xs++news)∧w.grownBy w' none∧∀b,dD v'=some b→w.heap.size≤b:=by
   intro ga cap XR holds;have hr:=run_append_grow (P:=P) w T ty e ei ez hT Bf Zw ga n cap xs zG.1 holds ad m c news hl Xf (by omega) (by simp only[maxLen] at h63;omega) (growslice_fits (by omega) hb)
   have hge:=grownCap_ge w (n+m) cap e
   have aFM:=grownCap_le_maxLen w (n+m) cap e h63
   refine⟨_,_,hr,⟨hlen,.inr ⟨w.heap.size,_,_,rfl,wD,heap_alloc_new w.drew _,hge,aFM, ?_, ?_,by omega⟩⟩,⟨rfl,rfl,rfl,by simp,fun k hk _=>heap_alloc_old w.drew _ hk⟩,fun b hb=>?_⟩
   ·simp only[Array.size_append,List.size_toArray,size_zeroCells,Mk,zG.1,hl,← Nat.add_mul];congr 1
    omega
   ·simp only[Array.toList_append,List.append_assoc];rw[← List.append_assoc,← hlen];exact List.take_left
   ·rw[jY (by omega)] at hb
    simp at hb
    omega
  rcases zG.2 with ⟨q,rfl,rfl⟩|⟨g,cap,cur,rfl,hbg,hg,Te,p9,GF,htake,qD⟩
  ·have hx:xs=[]:=List.eq_nil_of_length_eq_zero (by simpa using zG.1)
   cases q with
   | none =>
     subst hx;obtain⟨v',w',hr,ho,hgr,_⟩:=run_append_own (P:=P) w w.heap.size T ty e ei ez ei.size ei.bytes hT Bf Zw rfl rfl Mk Dp (.slice none 0 0) 0 [] (World.ownsRow_nil w _ e ei.size)
      ad m c news hl Xf h1 (by simpa using h63) (by simpa using hb) (Nat.le_refl _)
     exact⟨v',w',hr,yE (Ge ho) wD,hgr,fun b hb=>.inr ((Cc (Ge ho) b hb).1)⟩
   | some ga =>
     obtain⟨v',w',hr,ho,hgr,nP⟩:=grow ga 0 (by omega) (by rw[hx];simp)
     exact⟨v',w',hr,ho,by rw[pL];exact hgr,fun b hb=>.inr (nP b hb)⟩
  ·by_cases XR:n+m≤cap
   ·have aBU:n * ei.size+news.length≤cur.size:=by rw[hl,GF,← Nat.add_mul];exact Nat.mul_le_mul_right _ XR
    have hr:=run_append_room (P:=P) w T ty e ei hT Bf g n cap cur hg ad m c news hl Xf h1 XR aBU
    refine⟨_,_,hr,⟨hlen,.inr ⟨g,cap,_,rfl,hbg,setRow_heap w g cur _ e _ hg,XR,p9, ?_, ?_,qD⟩⟩,⟨rfl,rfl,rfl,by simp,fun k _ hk=>setRow_other w g k _ (fun e=>hk (by rw[jY qD,e]))⟩,fun b hb=>.inl (by rw[jY qD] at hb ⊢;exact hb)⟩
    ·simp only[List.size_toArray,List.length_append,List.length_take,List.length_drop,Array.length_toList];omega
    ·rw[htake,← hlen];exact List.take_left
   ·have holds:∀(j:Nat) (u:Value),xs[j]? = some u→w.cell? ((⟨g,0,none⟩:Addr).add j)=some u:=fun j u hu=>by
     rw[lM,Nat.zero_add,cell_of_row w g j cur e (0,0) hg];rw[← htake,List.getElem?_take] at hu;split at hu
     ·simpa using hu
     ·cases hu
    obtain⟨v',w',hr,ho,hgr,nP⟩:=grow ⟨g,0,none⟩ cap (by omega) holds
    exact⟨v',w',hr,ho,⟨hgr.os,hgr.tape,hgr.output,hgr.size,fun k hk _=>hgr.block k hk (by simp)⟩,fun b hb=>.inr (nP b hb)⟩
theorem lF (dst:Option Nat) (v:AV) (d:Nat) (x:nD):qT.apply { dst:=dst,val:=v,new:=some (d,[x])} st=(st.new d x).put dst v:=by
 simp only[qT.apply,Ux]
theorem Qo (dst:Option Nat) (v:AV) (s g d:Nat) (z:Option nD) (x:nD):qT.apply { dst:=dst,val:=v,dJ:=some (s,g,z),new:=some (d,[x])} st=((st.jM s g z).new d x).put dst v:=by
 simp only[qT.apply,Ux]
theorem GK (S:kN F h0 w0 nt ρ st a w) {T ty d:Nat} {s x:AV} {u:Option (Nat × Nat)} {r:nD} {sv xv:Value} (hd:d<nt) (h:dC P st T s x=some (u,r))
 (hs:cS (ctx h0 w0 ρ st w) s sv) (hx:cS (ctx h0 w0 ρ st w) x xv) :
 ∃v w' nU,(Builtin.append_ #[T,T] ty #[sv,xv]).run P w=.ok v w' ∧
  kN F h0 w0 nt nU (qT.apply { dst:=some d,val:=.own d (st.aQ d),dJ:=u.map fun p=>(p.1,p.2,none),new:=some (d,[r])} st) (a.put (some d) v) w':=by
 unfold dC at h;cases QV:dL P T with
 | none=>simp[QV] at h
 | some t =>
   obtain⟨e,sz,by_⟩:=t
   simp only[QV] at h;obtain⟨ei,ez,hT,Bf,Zw,rfl,Mk,rfl,Dp⟩:=jV QV
   cases hv:aR st x with
   | none=>simp[hv] at h
   | some mn =>
     obtain⟨m,news⟩:=mn
     simp only[hv] at h;split at h
     ·rename_i hlen;obtain⟨p,c,rfl,Q8⟩:=sB S hv hx
      have Q9:∃nv:List Value,gB (ctx h0 w0 ρ st w) news nv∧(nv≠[]→∃ad,p=some ad∧∀(j:Nat) (u:Value),nv[j]? = some u→w.cell? (ad.add j)=some u):=by
       by_cases gT:news=[]
       ·subst gT;exact⟨[],.nil _,fun h=>absurd rfl h⟩
       ·obtain⟨b,off,arr,T',fr,hp,hb,hc⟩:=Q8 gT
        refine⟨_,hc,fun _=>⟨_,hp,fun j u hu=>?_⟩⟩
        rw[lM,cell_of_row w b (off+j) arr T' fr hb];rw[List.getElem?_take] at hu;split at hu
        ·rw[List.getElem?_drop] at hu;simpa using hu
        ·cases hu
      obtain⟨nv,Te,oL⟩:=Q9
      have QR:nv.length=m * ei.size:=by rw[← Te.len,hlen]
      have Pm:∀u∈nv,u.oneCell'=true:=fun u hu=>by
       obtain⟨j,hj,rfl⟩:=List.getElem_of_mem hu
       exact Te.one j _ (by simp)
      split at h
      ·split at h
       ·rename_i hc;simp only[Option.some.injEq,Prod.mk.injEq] at h;obtain⟨rfl,rfl⟩:=h
        have:=iI hs
        subst this;obtain⟨v',w',hr,ho,hg,WS⟩:=Ek (P:=P) (w:=w) (base:=w.heap.size) (ty:=ty) hT Bf Zw Mk Dp (Nat.le_refl _) (Ge (World.ownsRow_nil w _ e ei.size)) (p:=p) (c:=c) QR oL Pm (by simpa using hc.2) (by simpa using hc.1)
        simp only[Nat.zero_add,List.nil_append] at ho;obtain⟨nU,S'⟩:=S.newRow d hd hg e ei.size m news nv v' ho Te
        exact⟨v',w',nU,hr,by rw[Option.map_none,lF];exact S'⟩
       ·cases h
      ·rename_i s' g'
       cases he:st.heap s' g' with
       | none=>simp[he] at h
       | some e' =>
         cases e' with
         | row e2 sz2 n cs =>
           simp only[he] at h;split at h
           ·rename_i hc;obtain⟨rfl,rfl,hb,h63⟩:=hc
            simp only[Option.some.injEq,Prod.mk.injEq] at h;obtain⟨rfl,rfl⟩:=h
            obtain⟨_,_,xs,ho,GF⟩:=S.sA s' g' _ he
            cases hs with
            | own _ _ hg1 ho1 =>
              obtain⟨v',w',hr,ho',hg,WS⟩:=Ek (P:=P) (w:=w) (ty:=ty) hT Bf Zw Mk Dp S.ext.size ho (p:=p) (c:=c) QR oL Pm h63 hb
              obtain⟨S',k,oS⟩:=S.G9 he hg d (.row e2 ei.size (n+m) (cs++news)) v' (sR ho') WS (fun C k=>⟨xs++nv,ho',(GF.app Te).le k⟩)
              have bB:st.aQ d<(ctx h0 w0 (tO ρ d (st.aQ d) v') ((st.jM s' g' none).new d (.row e2 ei.size (n+m) (cs++news))) w').aQ d:=by simp[ctx,St.new,St.jM]
              have lA:(ctx h0 w0 (tO ρ d (st.aQ d) v') ((st.jM s' g' none).new d (.row e2 ei.size (n+m) (cs++news))) w').ρ d (st.aQ d)=v':=oS
              have:=cS.own (C:=ctx h0 w0 (tO ρ d (st.aQ d) v') ((st.jM s' g' none).new d (.row e2 ei.size (n+m) (cs++news))) w') d (st.aQ d) bB (by rw[lA];exact sR ho')
              rw[lA] at this;have hS:=S'.put (some d) (fun t ht=>by cases ht;exact hd) this
              exact⟨v',w',_,hr,by rw[Option.map_some,Qo];exact hS⟩
           ·cases h
         | _=>simp[he] at h
      ·rename_i n cs;split at h
       ·rename_i hc;obtain⟨c1,c2,c3,c4⟩:=hc
        simp only[Option.some.injEq,Prod.mk.injEq] at h;obtain⟨rfl,rfl⟩:=h
        have main:∀(q:Option Addr) (ys:List Value),sv=.slice q n n→gB (ctx h0 w0 ρ st w) cs ys→(ys≠[]→∃ad,q=some ad∧∀(j:Nat) (u:Value),ys[j]? = some u→w.cell? (ad.add j)=some u) →
         ∃v' w',(Builtin.append_ #[T,T] ty #[sv,.slice p m c]).run P w=.ok v' w'∧nX w' w.heap.size e ei.size v' (n+m) (ys++nv)∧w.grownBy w' none:=by
         rintro q ys rfl Tf hcell'
         have hyl:ys.length=n * ei.size:=by rw[← Tf.len,c1]
         by_cases hm:m=0
         ·have hn0:n=0:=by omega
          subst hm;subst hn0;have hy0:ys=[]:=List.eq_nil_of_length_eq_zero (by simpa using hyl)
          have hn0:nv=[]:=List.eq_nil_of_length_eq_zero (by simpa using QR)
          subst hy0;subst hn0;obtain⟨v',w',hr,ho,hg,_⟩:=Ek (P:=P) (w:=w) (base:=w.heap.size) (ty:=ty) (v:=.slice q 0 0) (n:=0) (xs:=[]) hT Bf Zw Mk Dp (Nat.le_refl _) ⟨by simp,.inl ⟨q,rfl,rfl⟩⟩ (p:=p) (c:=c) QR oL (by simp) c4 c3
          rw[pL] at hg;exact⟨v',w',hr,ho,hg⟩
         ·have gT:nv≠[]:=by
           intro h;rw[h] at QR;have:0<m * ei.size:=Nat.mul_pos (by omega) Dp
           simp at QR
           omega
          obtain⟨ad,rfl,Xf⟩:=oL gT
          have hlen':(ys++nv).length=(n+m) * ei.size:=by rw[List.length_append,hyl,QR,Nat.add_mul]
          cases q with
          | none =>
            have hy0:ys=[]:=by
             by_cases h:ys=[]
             ·exact h
             ·obtain⟨ad,h1,_⟩:=hcell' h
              cases h1
            subst hy0;have hn0:n=0:=by
             rcases Nat.eq_zero_or_pos n with h|h
             ·exact h
             ·have:=Nat.mul_pos h Dp
              simp at hyl
              omega
            subst hn0;obtain⟨v',w',hr,ho,hg,_⟩:=Ek (P:=P) (w:=w) (base:=w.heap.size) (ty:=ty) (v:=.slice none 0 0) (n:=0) (xs:=[]) hT Bf Zw Mk Dp (Nat.le_refl _) ⟨by simp,.inl ⟨none,rfl,rfl⟩⟩ (p:=some ad) (c:=c) QR oL Pm c4 c3
            rw[pL] at hg;exact⟨v',w',hr,ho,hg⟩
          | some ga =>
            have holds:∀(j:Nat) (u:Value),ys[j]? = some u→w.cell? (ga.add j)=some u:=fun j u hu=>by
             have hne':ys≠[]:=by intro h;rw[h] at hu;simp at hu
             obtain⟨ad',h1,h2⟩:=hcell' hne'
             cases h1
             exact h2 j u hu
            have hr:=run_append_grow (P:=P) w T ty e ei ez hT Bf Zw ga n n ys hyl holds ad m c nv QR Xf (by omega) (by simp only[maxLen] at c4;omega) (growslice_fits (by omega) c3)
            have hge:=grownCap_ge w (n+m) n e
            have aFM:=grownCap_le_maxLen w (n+m) n e c4
            refine⟨_,_,hr,⟨hlen',.inr ⟨w.heap.size,_,_,rfl,Nat.le_refl _,heap_alloc_new w.drew _,hge,aFM, ?_, ?_,by omega⟩⟩,⟨rfl,rfl,rfl,by simp,fun k hk _=>heap_alloc_old w.drew _ hk⟩⟩
            ·simp only[Array.size_append,List.size_toArray,size_zeroCells,Mk,hyl,QR,← Nat.add_mul];congr 1
             omega
            ·simp only[Array.toList_append,List.append_assoc];rw[← List.append_assoc,← hlen'];exact List.take_left
        have fin:∀(ys:List Value),gB (ctx h0 w0 ρ st w) cs ys→(∃v' w',(Builtin.append_ #[T,T] ty #[sv,.slice p m c]).run P w=.ok v' w'∧nX w' w.heap.size e ei.size v' (n+m) (ys++nv)∧w.grownBy w' none) →
         ∃v w' nU,(Builtin.append_ #[T,T] ty #[sv,.slice p m c]).run P w=.ok v w' ∧
          kN F h0 w0 nt nU (qT.apply { dst:=some d,val:=.own d (st.aQ d),dJ:=(none:Option (Nat × Nat)).map fun p=>(p.1,p.2,none),new:=some (d,[.row e ei.size (n+m) (cs++news)])} st) (a.put (some d) v) w':=by
         rintro ys Tf ⟨v',w',hr,ho,hg⟩
         obtain⟨nU,S'⟩:=S.newRow d hd hg e ei.size (n+m) (cs++news) (ys++nv) v' ho (Tf.app Te)
         exact⟨v',w',nU,hr,by rw[Option.map_none,lF];exact S'⟩
        cases hs with
        | cl0 n q=>exact fin [] (.nil _) (main q [] rfl (.nil _) (by simp))
        | cl n cs b off arr T' fr hb hle hr CG =>
          have Bg:gB (ctx h0 w0 ρ st w) cs ((arr.toList.drop off).take cs.length):=by
           refine⟨by simp;omega,fun i x y hx hy=>?_,fun i y hy=>?_⟩
           ·have hi:=(List.getElem?_eq_some_iff.1 hx).1
            rw[List.getElem?_take,if_pos hi,List.getElem?_drop] at hy;exact hr i x y hx (by simpa using hy)
           ·rw[List.getElem?_take] at hy;split at hy
            ·rename_i hi;rw[List.getElem?_drop] at hy;exact CG i y hi (by simpa using hy)
            ·cases hy
          refine fin _ Bg (main _ _ rfl Bg fun _=>⟨⟨b,off,none⟩,rfl,fun j u hu=>?_⟩)
          rw[lM,cell_of_row w b (off+j) arr T' fr hb.1];rw[List.getElem?_take] at hu;split at hu
          ·rw[List.getElem?_drop] at hu;simpa using hu
          ·cases hu
       ·cases h
      ·cases h
     ·cases h
theorem AJ (S:kN F h0 w0 nt ρ st a w) {T ty:Nat} {s x:AV} {u:Nat × Nat × nD × Nat} {sv xv:Value} (h:kM P st T s x=some u)
 (hs:cS (ctx h0 w0 ρ st w) s sv) (hx:cS (ctx h0 w0 ρ st w) x xv) :
 ∃v w',(Builtin.append_ #[T,T] ty #[sv,xv]).run P w=.ok v w'∧kN F h0 w0 nt ρ (st.jM u.1 u.2.1 (some u.2.2.1)) a w' ∧
  cS (ctx h0 w0 ρ (st.jM u.1 u.2.1 (some u.2.2.1)) w') (.vw u.1 u.2.1 0 u.2.2.2) v:=by
 unfold kM at h;split at h
 ·rename_i e sz by_ m news s' g' k QV hv
  obtain⟨ei,ez,hT,Bf,Zw,rfl,Mk,rfl,Dp⟩:=jV QV
  cases he:st.heap s' g' with
  | none=>simp[he] at h
  | some en =>
    cases en with
    | row e' tF n cs =>
      simp only[he] at h;split at h
      ·rename_i hc;obtain⟨rfl,rfl,hlen,aBU⟩:=hc
       simp only[Option.some.injEq] at h;subst h;obtain⟨p,c,rfl,Q8⟩:=sB S hv hx
       have Q9:∃nv:List Value,gB (ctx h0 w0 ρ st w) news nv∧(nv≠[]→∃ad,p=some ad∧∀(j:Nat) (u:Value),nv[j]? = some u→w.cell? (ad.add j)=some u):=by
        by_cases gT:news=[]
        ·subst gT;exact⟨[],.nil _,fun h=>absurd rfl h⟩
        ·obtain⟨b,off,arr,T',fr,hp,hb,hc⟩:=Q8 gT
         refine⟨_,hc,fun _=>⟨_,hp,fun j u hu=>?_⟩⟩
         rw[lM,cell_of_row w b (off+j) arr T' fr hb];rw[List.getElem?_take] at hu;split at hu
         ·rw[List.getElem?_drop] at hu;simpa using hu
         ·cases hu
       obtain⟨nv,Te,oL⟩:=Q9
       have QR:nv.length=m * ei.size:=by rw[← Te.len,hlen]
       have Pm:∀u∈nv,u.oneCell'=true:=fun u hu=>by
        obtain⟨j,hj,rfl⟩:=List.getElem_of_mem hu
        exact Te.one j _ (by simp)
       obtain⟨_,_,xs,ho,Bg⟩:=S.sA s' g' _ he
       cases hs with
       | vw _ _ _ _ b cap hg hb mS yD =>
         have nP:dD (ρ s' g')=some b:=hb
         rcases ho.2 with ⟨q,lA,hn⟩|⟨b',Zv,cur,lA,wD,hh,u7,p9,GF,ht,qD⟩
         ·rw[lA,pL] at nP;cases nP
         ·have wL:b'=b:=by rw[lA,jY qD] at nP;simpa using nP
          subst wL;have hcc:cap=Zv:=yD rfl _ _ _ lA
          subst hcc;have hkm:(k+m) * ei.size≤n * ei.size:=Nat.mul_le_mul_right _ aBU
          have hnn:n * ei.size≤cap * ei.size:=Nat.mul_le_mul_right _ u7
          rw[Nat.add_mul] at hkm;have hcl':cur.toList.length=cur.size:=rfl
          have pS:(Builtin.append_ #[T,T] ty #[.slice (some ⟨b',0,none⟩) k cap,.slice p m c]).run P w=.ok (.slice (some ⟨b',0,none⟩) (k+m) cap) (w.setRow b' (cur.toList.take (k * ei.size)++nv++cur.toList.drop (k * ei.size+nv.length)).toArray):=by
           by_cases gT:nv=[]
           ·have hm:m=0:=by
             rw[gT] at QR;rcases Nat.eq_zero_or_pos m with h|h
             ·exact h
             ·have:=Nat.mul_pos h Dp
              simp at QR
              omega
            subst hm;have hfc:∀(x:Value),(∃p,x=.slice p 0 c)→(Builtin.firstCells ei.size 0 x).run P w=.ok #[] w:=by
             rintro x ⟨p,rfl⟩
             cases p<;>simp[Builtin.firstCells,loadCells,loadCellsFrom]
            have e0:(cur.toList.take (k * ei.size)++nv++cur.toList.drop (k * ei.size+nv.length)).toArray=cur:=by
             rw[gT];simp
            rw[e0,setRow_self w b' cur e' (0,0) hh];have hkc:k≤cap:=by omega
            simp[Builtin.append_,aX hT,run_sizeOf w Bf,Builtin.lenOf,hfc _ ⟨p,rfl⟩,storeCells,hkc]
           ·obtain⟨ad,rfl,Xf⟩:=oL gT
            exact run_append_room (P:=P) w T ty e' ei hT Bf b' k cap cur hh ad m c nv QR Xf Pm (by omega) (by omega)
          have hxl:=ho.1
          have hcsl:=Bg.len
          have S':=S.store (e':=.row e' ei.size n (cs.take (k * ei.size)++news++cs.drop (k * ei.size+m * ei.size))) (w':=w.setRow b' (cur.toList.take (k * ei.size)++nv++cur.toList.drop (k * ei.size+nv.length)).toArray) he nP ⟨rfl,rfl,rfl,by simp,fun j _ hj=>setRow_other w b' j _ (fun e=>hj (by rw[e]))⟩ (fun C kC=>by
           refine⟨xs.take (k * ei.size)++nv++xs.drop (k * ei.size+m * ei.size),⟨by simp;omega,.inr ⟨b',cap,_,lA,wD,setRow_heap w b' cur _ e' (0,0) hh,u7,p9,by simp;omega, ?_,qD⟩⟩,(((Bg.take _).app Te).app (Bg.drop _)).le kC⟩
           simp only
           rw[← ht,QR];have l1:(cur.toList.take (k * ei.size)++nv).length=k * ei.size+m * ei.size:=by simp;omega
           rw[List.take_append,l1,List.take_of_length_le (by omega),List.drop_take,List.take_take,Nat.min_eq_left (by omega)])
          exact⟨_,_,pS,S',.vw s' g' 0 _ b' cap hg hb (by show k+m≤cap;omega) (fun _=>yD rfl)⟩
      ·cases h
    | _=>simp[he] at h
 ·cases h
theorem MX (S:kN F h0 w0 nt ρ st a w) {T ty:Nat} {x:AV} {u:Option (Nat × Nat × nD)} {xv:Value} (h:tK P st T x=some u) (hx:cS (ctx h0 w0 ρ st w) x xv) :
 ∃w',(Builtin.clear_ #[T] ty #[xv]).run P w=.ok (.tuple #[]) w'∧kN F h0 w0 nt ρ (match u with|some p=>st.jM p.1 p.2.1 (some p.2.2)|none=>st) a w':=by
 unfold tK at h;split at h
 ·rename_i e sz by_ s g o k QV _;obtain⟨ei,ez,hT,Bf,Zw,rfl,Mk,rfl,Dp⟩:=jV QV
  split at h
  ·rename_i z e' tF n cs hz he
   split at h
   ·rename_i hc;obtain⟨rfl,rfl,aBU⟩:=hc
    simp only[Option.some.injEq] at h;subst h;obtain⟨i',zv,Ce,JT,rfl,H2⟩:=yG hz
    rw[Bf] at Ce
    cases Ce
    rw[Zw] at JT;cases JT
    obtain⟨_,_,xs,ho,Bg⟩:=S.sA s g _ he
    cases hx with
    | vw _ _ _ _ b cap hg hb mS yD =>
      have nP:dD (ρ s g)=some b:=hb
      rcases ho.2 with ⟨q,lA,hn⟩|⟨b',Zv,cur,lA,wD,hh,u7,p9,GF,ht,qD⟩
      ·rw[lA,pL] at nP;cases nP
      ·have wL:b'=b:=by rw[lA,jY qD] at nP;simpa using nP
       subst wL;have hxl:=ho.1
       have hcsl:=Bg.len
       have hnn:n * ei.size≤Zv * ei.size:=Nat.mul_le_mul_right _ u7
       have hcl':cur.toList.length=cur.size:=rfl
       have TN:(Builtin.zeroCells ez.cells k).toList=(List.range k).flatMap fun _=>ez.cells.toList:=by
        unfold Builtin.zeroCells;rw[← Hd]
       have hzl:((List.range k).flatMap fun _=>ez.cells.toList).length=k * ei.size:=by
        rw[← TN,Array.length_toList,size_zeroCells,Mk]
       have hz1':∀v∈(List.range k).flatMap fun _=>ez.cells.toList,v.oneCell'=true:=fun v hv=>by
        obtain⟨_,_,hv⟩:=List.mem_flatMap.1 hv
        exact H2 v hv
       have xG:=run_storeCells_at P b' o e' ((List.range k).flatMap fun _=>ez.cells.toList) 0 cur w hh (by rw[hzl];omega) hz1'
       simp only[Nat.add_zero] at xG;have S':=S.store (e':=.row e' ei.size n (cs.take o++((List.range k).flatMap fun _=>ez.cells.toList.map .v)++cs.drop (o+k * ei.size))) (w':=w.setRow b' (cur.toList.take o++((List.range k).flatMap fun _=>ez.cells.toList)++cur.toList.drop (o+((List.range k).flatMap fun _=>ez.cells.toList).length)).toArray) he nP ⟨rfl,rfl,rfl,by simp,fun j _ hj=>setRow_other w b' j _ (fun e=>hj (by rw[e]))⟩ (fun C kC=>by
        refine⟨xs.take o++((List.range k).flatMap fun _=>ez.cells.toList)++xs.drop (o+k * ei.size),⟨by rw[List.length_append,List.length_append,hzl];simp;omega,.inr ⟨b',Zv,_,lA,wD,setRow_heap w b' cur _ e' (0,0) hh,u7,p9,by rw[List.size_toArray,List.length_append,List.length_append,hzl];simp;omega, ?_,qD⟩⟩,(((Bg.take _).le kC).app (It H2 k)).app ((Bg.drop _).le kC)⟩
        simp only
        rw[← ht,hzl];have l1:(cur.toList.take o++((List.range k).flatMap fun _=>ez.cells.toList)).length=o+k * ei.size:=by rw[List.length_append,hzl];simp;omega
        rw[List.take_append,l1,List.take_of_length_le (by omega),List.drop_take,List.take_take,Nat.min_eq_left (by omega)])
       refine⟨_, ?_,S'⟩
       have hzv:(zeroValue e').run P w=.ok ez w:=by simp[zeroValue,typeInfo,Bf,Zw]
       cases k with
       | zero =>
         have e0:(cur.toList.take o++((List.range 0).flatMap fun _=>ez.cells.toList)++cur.toList.drop (o+((List.range 0).flatMap fun _=>ez.cells.toList).length)).toArray=cur:=by simp
         rw[e0,setRow_self w b' cur e' (0,0) hh];simp[Builtin.clear_,aX hT]
       | succ k =>
         have hst2:(storeCells ⟨b',o,none⟩ (Builtin.zeroCells ez.cells (k+1)).toList).run P w=.ok () (w.setRow b' (cur.toList.take o++((List.range (k+1)).flatMap fun _=>ez.cells.toList)++cur.toList.drop (o+((List.range (k+1)).flatMap fun _=>ez.cells.toList).length)).toArray):=by rw[TN];exact xG
         obtain⟨W,hW⟩:∃W,w.setRow b' (cur.toList.take o++((List.range (k+1)).flatMap fun _=>ez.cells.toList)++cur.toList.drop (o+((List.range (k+1)).flatMap fun _=>ez.cells.toList).length)).toArray=W:=⟨_,rfl⟩
         rw[hW] at hst2;rw[hW];simp[Builtin.clear_,aX hT,hzv,hst2]
   ·cases h
  ·cases h
 ·rename_i t cs QV _;simp only[Option.some.injEq] at h;subst h;obtain⟨e,sz,by_⟩:=t
  obtain⟨ei,ez,hT,_⟩:=jV QV
  refine⟨w, ?_,S⟩
  cases hx with
  | JO n cap p mS=>cases p<;>simp[Builtin.clear_,aX hT]
  | sl n cs b off cap arr T fr mS hb hle hr h1=>simp[Builtin.clear_,aX hT]
 ·rename_i t QV _;simp only[Option.some.injEq] at h;subst h;obtain⟨e,sz,by_⟩:=t
  obtain⟨ei,ez,hT,_⟩:=jV QV
  have:=iI hx
  subst this;exact⟨w,by simp[Builtin.clear_,aX hT],S⟩
 ·cases h
theorem TO {C:Ctx} {x:AV} {v:Value} {g:Nat} {oR:List AV} (h:EG x=some (g,oR)) (hr:cS C x v):∃cv,v=.func (.func g) #[] cv∧lI C oR cv.toList:=by
 unfold EG at h;split at h
 ·split at h
  ·rename_i hc;obtain⟨rfl,rfl⟩:=hc
   simp only[Option.some.injEq,Prod.mk.injEq] at h;obtain⟨rfl,rfl⟩:=h
   have:=iI hr
   subst this;exact⟨#[],rfl,.nil C⟩
  ·cases h
 ·simp only[Option.some.injEq,Prod.mk.injEq] at h;obtain⟨rfl,rfl⟩:=h
  cases hr with
  | Ev f cs a hl hr=>exact⟨a,rfl,by simpa using hl,fun i x y hx hy=>hr i x y hx (by simpa using hy)⟩
 ·cases h
variable [Ext]
theorem AK (S:kN F h0 w0 nt ρ st a w) {call:Nat→List AV→Option AV} (kA:qQ P call) {o:Oper} {c:Call} (pV:o.op=.call c) {e:qT}
 (h:iE P call c o.dst st=some e) (hd:∀d,o.dst=some d→d<nt)
 (hK:∀nU a' w',kN F h0 w0 nt nU (e.apply st) a' w'→K a' w'):o.wp P a w K Q:=by
 have wF:lI (ctx h0 w0 ρ st w) (c.args.toList.map st.ev) (c.args.toList.map a.eval):=lI.map _ _ _ fun p _=>S.ev p
 unfold iE at h;split at h
 ·rename_i f hf;have fin:∀g cv,a.eval f=.func (.func g) #[] cv→(Ha P g∧Calls P g (c.args.map a.eval++cv) w fun en w'=>∃v,en=.returned v∧K (a.put o.dst v) w')→o.wp P a w K Q:=by
   rintro g cv hv ⟨⟨fn,aFN,R0,R1⟩,TP⟩
   have hnb:fn.body.isNone=false:=by
    cases hb:fn.body<;>simp[hb] at R1 ⊢
   have Pm : ¬ fn.name = "runtime.NumGoroutine" := by simpa using R0
   have hn2:¬fn.body=none:=by intro h;simp[h] at hnb
   have pS:(execOp a.eval o).run P w=.ok (.enter g (c.args.map a.eval++cv)) w:=by
    simp[execOp,pV,resolve,hf,hv,Deferred.ofValue,invoke,callFunc,aFN,Pm,hn2]
   unfold Oper.wp;rw[pS,Oper.upon_enter];refine TP.mono ?_
   rintro en w' ⟨v,rfl,hk⟩
   exact hk
  have gen:∀g oR,EG (st.ev f)=some (g,oR)→aN call g (c.args.toList.map st.ev++oR) st o.dst=some e→o.wp P a w K Q:=by
   intro g oR hfn h;obtain⟨cv,hv,hcaps⟩:=TO hfn (S.ev f)
   have gA:lI (ctx h0 w0 ρ st w) (c.args.toList.map st.ev++oR) (c.args.map a.eval++cv).toList:=by
    simpa using wF.app hcaps
   exact fin g cv hv (Ej S kA h gA hd hK)
  unfold nM at h;split at h
  ·rename_i g;split at h
   ·refine fin g #[] rfl ?_
    exact GH S kA h (by simpa using wF) hd hK
   ·split at h
    ·refine fin g #[] rfl ?_
     exact AI S kA h (by simpa using wF) hd hK
    ·exact gen g [] rfl (by simpa using h)
  ·split at h
   ·rename_i g oR hfn;exact gen g oR hfn h
   ·cases h
 ·rename_i hf;split at h
  ·rename_i x T hx hT;cases hs:dL P T with
   | none=>simp[hs] at h
   | some t =>
     cases hv:aR st (st.ev x) with
     | none=>simp[hs,hv] at h
     | some nc =>
       obtain⟨n,cs⟩:=nc
       simp only[hs,hv,Option.some.injEq] at h;subst h;obtain⟨p,cap,u9,_⟩:=sB S hv (S.ev x)
       obtain⟨e,sz,by_⟩:=t
       obtain⟨ei,ez,hu,_⟩:=jV hs
       have ha:c.args=#[x]:=by apply Array.ext';simpa using hx
       have ht:c.argTypes=#[T]:=by apply Array.ext';simpa using hT
       refine upon_value (v:=.int .i64 n) ?_ (hK ρ _ w (S.put o.dst hd (.v _)))
       simp[execOp,pV,resolve,hf,ha,ht,invoke,builtin,Builtin.len_,u9,aX hu,goInt]
  ·cases h
 ·rename_i hf;split at h
  ·rename_i x y hx;split at h
   ·rename_i k p k' q h1 h2
    simp only[Option.some.injEq] at h;subst h;have e1:=S.ev x
    rw[h1] at e1;have e1:=iI e1
    have e2:=S.ev y
    rw[h2] at e2;have e2:=iI e2
    have ha:c.args=#[x,y]:=by apply Array.ext';simpa using hx
    refine upon_value (v:=.int k (if q<p then q else p)) ?_ (hK ρ _ w (S.put o.dst hd (.v _)))
    simp[execOp,pV,resolve,hf,ha,invoke,builtin,Builtin.min_,Builtin.min2,e1,e2]
   ·cases h
  ·cases h
 ·rename_i hf;split at h
  ·rename_i x y hx;split at h
   ·rename_i k p k' q h1 h2
    simp only[Option.some.injEq] at h;subst h;have e1:=S.ev x
    rw[h1] at e1;have e1:=iI e1
    have e2:=S.ev y
    rw[h2] at e2;have e2:=iI e2
    have ha:c.args=#[x,y]:=by apply Array.ext';simpa using hx
    refine upon_value (v:=.int k (if q > p then q else p)) ?_ (hK ρ _ w (S.put o.dst hd (.v _)))
    simp[execOp,pV,resolve,hf,ha,invoke,builtin,Builtin.max_,Builtin.max2,e1,e2]
   ·cases h
  ·cases h
 ·rename_i hf;cases lD:o.dst with
  | none=>simp[lD,cD] at h
  | some d =>
  simp only[lD,cD] at h;split at h
  ·rename_i s x T T' hx hT
   split at h
   ·rename_i hTT;subst hTT;split at h
    ·cases nG:kM P st T (st.ev s) (st.ev x) with
     | none=>simp[nG] at h
     | some u =>
     simp only[nG,Option.map_some,Option.some.injEq] at h;subst h;obtain⟨v,w',hr,S',hv⟩:=AJ (ty:=o.type) S nG (S.ev s) (S.ev x)
     have ha:c.args=#[s,x]:=by apply Array.ext';simpa using hx
     have ht:c.argTypes=#[T,T]:=by apply Array.ext';simpa using hT
     rw[lD] at hd;have hk:=hK ρ _ w' (S'.put (some d) hd hv)
     unfold Oper.wp;simp only[execOp,pV,resolve,hf,ha,ht,invoke,builtin];simp[hr]
     unfold Oper.upon;rw[lD];exact hk
    split at h
    ·rename_i hpa;obtain⟨_,hs0,QV,hv'⟩:=hpa
     obtain⟨⟨_,cs⟩,hv,hv0⟩:=Option.map_eq_some_iff.1 hv'
     simp only at hv0
     subst hv0;simp only[Option.some.injEq] at h;subst h;have e1:=S.ev s
     rw[hs0] at e1;have e1:=iI e1
     obtain⟨q,c',hxv,_⟩:=sB S hv (S.ev x)
     cases hsi:dL P T with
     | none=>rw[hsi] at QV;cases QV
     | some t =>
     obtain⟨e,sz,by_⟩:=t
     obtain⟨ei,ez,hT',Bf,_⟩:=jV hsi
     have hz:∀w:World,(Builtin.firstCells ei.size 0 (.slice q 0 c')).run P w=.ok ([]:List Value).toArray w:=fun w=>by cases q<;>simp[Builtin.firstCells,loadCells,loadCellsFrom]
     have hr:(Builtin.append_ #[T,T] o.type #[.slice none 0 0,.slice q 0 c']).run P w=.ok (.slice none 0 0) w:=run_append_nothing w T T o.type e ei hT' Bf none 0 0 (Nat.le_refl _) _ ⟨.inl ⟨e,hT'⟩,fun w'=>by simp[Builtin.lenOf],hz _,hz _,by simp,by simp⟩
     have ha:c.args=#[s,x]:=by apply Array.ext';simpa using hx
     have ht:c.argTypes=#[T,T]:=by apply Array.ext';simpa using hT
     rw[lD] at hd;refine upon_value (v:=.slice none 0 0) ?_ (by rw[lD];exact hK ρ _ w (S.put (some d) hd (.v _)))
     simp[execOp,pV,resolve,hf,ha,ht,invoke,builtin,e1,hxv,hr]
    cases nG:dC P st T (st.ev s) (st.ev x) with
    | none=>simp[nG] at h
    | some ur =>
      obtain⟨u,r⟩:=ur
      simp only[nG,Option.some.injEq] at h;subst h;obtain⟨v,w',nU,hr,S'⟩:=GK (ty:=o.type) S (hd d lD) nG (S.ev s) (S.ev x)
      have ha:c.args=#[s,x]:=by apply Array.ext';simpa using hx
      have ht:c.argTypes=#[T,T]:=by apply Array.ext';simpa using hT
      have hk:=hK nU _ w' S'
      unfold Oper.wp;simp only[execOp,pV,resolve,hf,ha,ht,invoke,builtin];simp[hr]
      unfold Oper.upon;rw[lD];exact hk
   ·cases h
  ·cases h
 ·rename_i hf;split at h
  ·rename_i x T hx hT;cases nG:tK P st T (st.ev x) with
   | none=>simp[nG] at h
   | some u =>
     simp only[nG,Option.map_some,Option.some.injEq] at h;subst h;obtain⟨w',hr,S'⟩:=MX (ty:=o.type) S nG (S.ev x)
     have ha:c.args=#[x]:=by apply Array.ext';simpa using hx
     have ht:c.argTypes=#[T]:=by apply Array.ext';simpa using hT
     have hk:=hK ρ (a.put o.dst (.tuple #[])) w' (by
      have:=S'.put o.dst hd (x:=.eE []) (v:=.tuple #[]) (.eE [] #[] rfl (by simp))
      cases u with
      | none=>exact this
      | some p=>exact this)
     unfold Oper.wp;simp only[execOp,pV,resolve,hf,ha,ht,invoke,builtin];simp[hr]
     unfold Oper.upon;exact hk
  ·cases h
 ·cases h
theorem Sh (S:kN F h0 w0 nt ρ st a w) {call:Nat→List AV→Option AV} (kA:qQ P call) {o:Oper} {e:qT} (h:dI P call o st=some e) (hd:∀d,o.dst=some d→d<nt)
 (hK:∀nU a' w',kN F h0 w0 nt nU (e.apply st) a' w'→K a' w'):o.wp P a w K Q:=by
 unfold dI at h;split at h
 ·rename_i T pV;cases lD:o.dst with
  | none=>simp[lD,cD] at h
  | some d =>
    cases hz:dZ P T with
    | none=>simp[lD,hz,cD] at h
    | some z =>
      simp only[lD,hz,cD,Option.some.injEq] at h;subst h;obtain⟨i,zv,hi,JT,rfl,H2⟩:=yG hz
      obtain⟨nU,S'⟩:=S.newVar d (hd d lD) (zv.cells.toList.map .v) zv.cells T (gB.vs _ _ H2)
      refine upon_value (v:=.pointer (some ⟨w.heap.size,0,none⟩)) (w':=w.alloc (.cells zv.cells T)) ?_ (by rw[lD];exact hK nU _ _ (by rw[lF];exact S'))
      simp only[execOp,pV,Instr.alloc];simp[Bd w hi JT,Go.newVar,Go.newRow]
 ·rename_i T x pV;cases lD:o.dst with
  | none=>simp[lD,cD] at h
  | some d =>
    simp only[lD,cD] at h;split at h
    ·rename_i xG;simp only[Option.some.injEq] at h;subst h;obtain⟨nU,S'⟩:=S.newVar d (hd d lD) (st.ev x).cells (a.eval x).cells T ((S.ev x).cells xG)
     refine upon_value (v:=.pointer (some ⟨w.heap.size,0,none⟩)) (w':=w.alloc (.cells (a.eval x).cells T)) ?_ (by rw[lD];exact hK nU _ _ (by rw[lF];exact S'))
     simp only[execOp,pV,Instr.box];simp[Go.newVar,Go.newRow]
    ·cases h
 ·rename_i T n parts pV;cases lD:o.dst with
  | none=>simp[lD,cD] at h
  | some d =>
    cases hs:dL P T with
    | none=>simp[lD,hs,cD] at h
    | some t =>
      obtain⟨e',sz,by_⟩:=t
      cases hz:dZ P e' with
      | none=>simp[lD,hs,hz,cD] at h
      | some z =>
        simp only[lD,hs,hz,cD] at h;split at h
        ·rename_i hc;obtain⟨c1,c2,c3⟩:=hc
         cases hf:gM (fun i=>some (i * sz,sz)) ((List.range n).flatMap fun _=>z.map .v) (parts.toList.map fun p=>(p.1,st.ev p.2)) with
         | none=>simp[hf] at h
         | some cs =>
           simp only[hf,Option.some.injEq] at h;subst h;obtain⟨v,w',xs,hr,hg,ho,oL⟩:=Qn S hs hz c1 c2 c3 hf
           obtain⟨nU,S'⟩:=S.newRow d (hd d lD) hg e' sz n cs xs v ho oL
           refine upon_value (v:=v) (w':=w') ?_ (by rw[lD];exact hK nU _ _ (by rw[lF];exact S'))
           simp only[execOp,pV];rw[dG hr];rfl
        ·cases h
 ·rename_i T l c pV;cases lD:o.dst with
  | none=>simp[lD,cD] at h
  | some d =>
    cases hs:dL P T with
    | none=>simp[lD,hs,cD] at h
    | some t =>
      obtain⟨e',sz,by_⟩:=t
      cases hz:dZ P e' with
      | none=>simp[lD,hs,hz,cD] at h
      | some z =>
        simp only[lD,hs,hz,cD] at h;split at h
        ·rename_i n m hl hc;split at h
         ·rename_i H0;obtain⟨c1,rfl,c3,c4⟩:=H0
          simp only[Option.some.injEq] at h;subst h;obtain⟨k,rfl⟩:∃k:Nat,n=k:=⟨n.toNat,by omega⟩
          obtain⟨v,w',xs,hr,hg,ho,oL⟩:=Tg (w:=w) (ctx h0 w0 ρ st w) hs hz (n:=k) (by
           have:((k * by_:Nat):Int)≤140737488355328:=by rw[Int.natCast_mul];exact c3
           omega) (by omega)
          obtain⟨nU,S'⟩:=S.newRow d (hd d lD) hg e' sz k _ xs v ho oL
          simp only[Int.toNat_natCast] at hK;refine upon_value (v:=v) (w':=w') ?_ (by rw[lD];exact hK nU _ _ (by rw[lF];exact S'))
          have e1:=S.ev l
          rw[hl] at e1;have e1:=iI e1
          have e2:=S.ev c
          rw[hc] at e2;have e2:=iI e2
          simp only[execOp,pV,e1,e2];rw[dG hr];rfl
         ·cases h
        ·cases h
 ·rename_i T x y pV;cases hs:pO P st T (st.ev x) (st.ev y) with
  | none=>simp[hs] at h
  | some u =>
    obtain⟨s,g,e'⟩:=u
    simp only[hs,Option.map_some,Option.some.injEq] at h;subst h;obtain⟨w',hr,S'⟩:=MW S hs (S.ev x) (S.ev y)
    have hk:=hK ρ _ w' (S'.put o.dst hd (.v undef))
    unfold Oper.wp;simp only[execOp,pV];rw[dG hr];exact hk
 ·rename_i T pV;cases lD:o.dst with
  | none=>simp[lD,cD] at h
  | some d =>
    simp only[lD,cD,Option.some.injEq] at h;subst h;obtain⟨S',k,oS⟩:=S.new (World.grownBy_alloc w (.map #[] 0) none) d (.map []) (.map (some w.heap.size)) rfl (fun b hb=>by simp[dD] at hb;omega)
     (fun C k _=>⟨w.heap.size,#[],0,rfl,S.ext.size,heap_alloc_new w _,trivial⟩)
    have bB:st.aQ d<(ctx h0 w0 (tO ρ d (st.aQ d) (.map (some w.heap.size))) (st.new d (.map [])) (w.alloc (.map #[] 0))).aQ d:=by simp[ctx,St.new]
    have lA:(ctx h0 w0 (tO ρ d (st.aQ d) (.map (some w.heap.size))) (st.new d (.map [])) (w.alloc (.map #[] 0))).ρ d (st.aQ d)=.map (some w.heap.size):=oS
    have:=cS.mp (C:=ctx h0 w0 (tO ρ d (st.aQ d) (.map (some w.heap.size))) (st.new d (.map [])) (w.alloc (.map #[] 0))) d (st.aQ d) bB (by rw[lA];rfl)
    rw[lA] at this;have hS:=S'.put (some d) (fun t ht=>by cases ht;exact hd d lD) this
    refine upon_value (v:=.map (some w.heap.size)) (w':=w.alloc (.map #[] 0)) ?_ (by rw[lD];exact hK _ _ _ (by rw[lF];exact hS))
    simp only[execOp,pV,Option.map_none];rfl
 ·rename_i T m x y pV;cases hs:tJ P st T (st.ev m) (st.ev x) (st.ev y) with
  | none=>simp[hs] at h
  | some u =>
    obtain⟨s,g,e'⟩:=u
    simp only[hs,Option.map_some,Option.some.injEq] at h;subst h;obtain⟨w',hr,S'⟩:=GB S hs (S.ev m) (S.ev x) (S.ev y)
    have hk:=hK ρ _ w' (S'.put o.dst hd (.v undef))
    unfold Oper.wp;simp only[execOp,pV];rw[dG hr];exact hk
 ·rename_i c pV;exact AK S kA pV h hd hK
 ·cases hv:iS P st o.op with
  | none=>simp[hv] at h
  | some x =>
    simp only[hv,Option.map_some,Option.some.injEq] at h;subst h;obtain⟨v,hr,gA⟩:=MQ S hv
    exact upon_value hr (hK ρ _ w (S.put o.dst hd gA))
end
end Go.Ab
end
section
namespace Go.Ab
open Classical
def mK (aQ:Nat→Nat) (x:AV):Prop:=∃(C:Ctx) (v:Value),C.aQ=aQ∧cS C x v
theorem mK.ptr {aQ:Nat→Nat} {s g o:Nat} (h:mK aQ (.ptr s g o)):g<aQ s:=by
 obtain⟨C,v,rfl,h⟩:=h
 cases h with
 | ptr s g off b hg hb=>exact hg
theorem mK.own {aQ:Nat→Nat} {s g:Nat} (h:mK aQ (.own s g)):g<aQ s:=by
 obtain⟨C,v,rfl,h⟩:=h
 cases h with
 | own s g hg _=>exact hg
theorem mK.vw {aQ:Nat→Nat} {s g o n:Nat} (h:mK aQ (.vw s g o n)):g<aQ s:=by
 obtain⟨C,v,rfl,h⟩:=h
 cases h with
 | vw s g o n b cap hg _ _ _=>exact hg
theorem mK.mp {aQ:Nat→Nat} {s g:Nat} (h:mK aQ (.mp s g)):g<aQ s:=by
 obtain⟨C,v,rfl,h⟩:=h
 cases h with
 | mp s g hg _=>exact hg
theorem mK.agg {aQ:Nat→Nat} {cs:List AV} (h:mK aQ (.agg cs)):∀c∈cs,mK aQ c:=by
 obtain⟨C,v,rfl,h⟩:=h
 cases h with
 | agg cs a hl hr _ =>
   intro c hc;obtain⟨i,hi,rfl⟩:=List.getElem_of_mem hc
   exact⟨C,a[i],rfl,hr i _ _ (by simp[hi]) (by simp)⟩
theorem mK.Ev {aQ:Nat→Nat} {f:Nat} {cs:List AV} (h:mK aQ (.Ev f cs)):∀c∈cs,mK aQ c:=by
 obtain⟨C,v,rfl,h⟩:=h
 cases h with
 | Ev f cs a hl hr =>
   intro c hc;obtain⟨i,hi,rfl⟩:=List.getElem_of_mem hc
   exact⟨C,a[i]'(by omega),rfl,hr i _ _ (by simp[hi]) (by simp)⟩
section
variable {P:Program} {call:Nat→List AV→Option AV} {st st':St}
def pT (st st':St):Prop:=∀s g,g<st.aQ s→st'.heap s g=st.heap s g
theorem GL {x:AV} (hx:mK st.aQ x) (hh:pT st st'):qC st' x=qC st x:=by
 cases x<;>simp only[qC]
 rw[hh _ _ hx.ptr]
theorem sC {x:AV} (hx:mK st.aQ x) (hh:pT st st'):aR st' x=aR st x:=by
 cases x
 case own=>simp only[aR,hh _ _ hx.own]
 case vw=>simp only[aR,hh _ _ hx.vw]
 case v y =>
  cases y
  case slice p n c=>cases p<;>cases n<;>cases c<;>rfl
  all_goals rfl
 all_goals rfl
theorem Qp {T:Nat} {x i:AV} (hx:mK st.aQ x) (hh:pT st st'):bD P st' T x i=bD P st T x i:=by
 unfold bD;cases x<;>try rfl
 simp only[hh _ _ hx.own]
theorem Xg {T:Nat} {x:AV} {lo hi:Option Operand} (hx:∀s g,((∃o,x=.ptr s g o)∨x=.own s g∨∃o n,x=.vw s g o n)→st'.heap s g=st.heap s g) (hl:∀p,lo=some p→st'.ev p=st.ev p) (Ce:∀p,hi=some p→st'.ev p=st.ev p):cW P st' T x lo hi=cW P st T x lo hi:=by
 unfold cW;cases dL P T with
 | none =>
   simp only
   cases jF P T with
   | none=>rfl
   | some na =>
     cases x<;>try rfl
     rename_i s g o;cases lo<;>cases hi<;>try rfl
     simp only[hx s g (.inl ⟨o,rfl⟩)]
 | some t =>
   simp only
   cases x<;>try rfl
   case v y =>
    cases y<;>try rfl
    rename_i p n c;cases p<;>cases n<;>cases c<;>try rfl
    cases lo with
    | none=>cases hi with
      | none=>rfl
      | some h=>simp only[Ce h rfl]
    | some l=>cases hi with
      | none=>simp only[hl l rfl]
      | some h=>simp only[hl l rfl,Ce h rfl]
   case sl n cs =>
    cases lo with
    | none=>cases hi with
      | none=>rfl
      | some h=>simp only[Ce h rfl]
    | some l=>cases hi with
      | none=>simp only[hl l rfl]
      | some h=>simp only[hl l rfl,Ce h rfl]
   case own s g =>
    simp only[hx s g (.inr (.inl rfl))];cases lo with
    | none=>cases hi with
      | none=>rfl
      | some h=>simp only[Ce h rfl]
    | some l=>cases hi with
      | none=>simp only[hl l rfl]
      | some h=>simp only[hl l rfl,Ce h rfl]
   case vw s g o n =>
    cases o with
    | succ o=>rfl
    | zero =>
      simp only[hx s g (.inr (.inr ⟨_,_,rfl⟩))];cases st.heap s g with
      | none=>rfl
      | some e=>cases e with
        | row e' tF n' Dj =>
          cases lo with
          | none=>cases hi<;>rfl
          | some l=>cases hi with
            | none=>rfl
            | some h=>simp only[hl l rfl,Ce h rfl]
        | _=>rfl
theorem GM {T:Nat} {x:AV} {lo hi:Option Operand} (hx:mK st.aQ x) (hh:pT st st') (hl:∀p,lo=some p→st'.ev p=st.ev p) (Ce:∀p,hi=some p→st'.ev p=st.ev p):cW P st' T x lo hi=cW P st T x lo hi :=
 Xg (fun s g h=>by
  rcases h with ⟨o,rfl⟩|rfl|⟨o,n,rfl⟩
  ·exact hh _ _ hx.ptr
  ·exact hh _ _ hx.own
  ·exact hh _ _ hx.vw) hl Ce
def AL (st:St):Prop:=∀s g cs,st.heap s g=some (.cells cs)→∀c∈cs,mK st.aQ c
theorem MY {x:AV} (hx:mK st.aQ x) (hh:pT st st'):wW st' x=wW st x:=by
 unfold wW;cases x<;>try rfl
 ·simp only[hh _ _ hx.own]
 ·simp only[hh _ _ hx.vw]
theorem He (hp:AL st) {x:AV} (hx:mK st.aQ x) (hh:pT st st'):cY st' x=cY st x:=by
 unfold cY;cases x<;>try rfl
 ·rename_i s g o;simp only[hh _ _ hx.ptr];cases he:st.heap s g with
  | none=>rfl
  | some e =>
    cases e with
    | cells cs =>
      have:cs.map (wW st')=cs.map (wW st):=List.map_congr_left fun c hc=>MY (hp s g cs he c hc) hh
      simp only[this]
    | _=>rfl
 ·simp only[hh _ _ hx.own]
 ·simp only[hh _ _ hx.vw]
theorem Xh (hp:AL st) {x:AV} (hx:mK st.aQ x) (hh:pT st st'):fO st' x=fO st x:=by
 unfold fO;cases x<;>try (simp only[He hp hx hh];done)
 ·rename_i cs;have:cs.map (cY st')=cs.map (cY st):=List.map_congr_left fun c hc=>He hp (hx.agg c hc) hh
  simp only[this]
 ·rename_i f cs;have:cs.map (cY st')=cs.map (cY st):=List.map_congr_left fun c hc=>He hp (hx.Ev c hc) hh
  simp only[this]
theorem GN {T:Nat} {x y:AV} (hx:mK st.aQ x) (hh:pT st st'):pO P st' T x y=pO P st T x y:=by
 unfold pO;cases x<;>try rfl
 simp only[hh _ _ hx.ptr]
theorem AM {T:Nat} {s x:AV} (hs:mK st.aQ s) (hx:mK st.aQ x) (hh:pT st st'):dC P st' T s x=dC P st T s x:=by
 unfold dC;simp only[sC hx hh];cases s
 case own=>simp only[hh _ _ hs.own]
 case v y =>
  cases y
  case slice p n c=>cases p<;>cases n<;>cases c<;>rfl
  all_goals rfl
 all_goals rfl
theorem AN {T:Nat} {s x:AV} (hs:mK st.aQ s) (hx:mK st.aQ x) (hh:pT st st'):kM P st' T s x=kM P st T s x:=by
 unfold kM;rw[sC hx hh];cases dL P T with
 | none=>rfl
 | some t=>cases aR st x with
   | none=>rfl
   | some mn =>
     cases s<;>try rfl
     case vw s g o n =>
      cases o with
      | zero=>simp only[hh _ _ hs.vw]
      | succ o=>rfl
theorem GO {T:Nat} {x:AV} (hx:mK st.aQ x) (hh:pT st st'):tK P st' T x=tK P st T x:=by
 unfold tK;cases dL P T with
 | none=>rfl
 | some t =>
   cases x<;>try rfl
   case vw s g o n=>simp only[hh _ _ hx.vw]
   case v y =>
    cases y<;>try rfl
    rename_i p n c;cases p<;>cases n<;>cases c<;>rfl
   case sl n cs=>cases n<;>rfl
theorem Si {T:Nat} {x:AV} {lo:Option Operand} {hi mx:Operand} (hx:∀s g,x=.own s g→st'.heap s g=st.heap s g) (hl:∀p,lo=some p→st'.ev p=st.ev p) (h1:st'.ev hi=st.ev hi) (h2:st'.ev mx=st.ev mx):vN P st' T x lo hi mx=vN P st T x lo hi mx:=by
 unfold vN;rw[h1,h2];cases dL P T with
 | none=>rfl
 | some t =>
   simp only
   cases lo with
   | none =>
     simp only
     cases x<;>try rfl
     case own s g=>simp only[hx s g rfl]
     case v y =>
      cases y<;>try rfl
      rename_i p n c;cases p<;>cases n<;>cases c<;>rfl
   | some l =>
     simp only[hl l rfl];cases x<;>try rfl
     case own s g=>simp only[hx s g rfl]
     case v y =>
      cases y<;>try rfl
      rename_i p n c;cases p<;>cases n<;>cases c<;>rfl
theorem MZ {T:Nat} {m x:AV} {ok:Bool} (hm:mK st.aQ m) (hh:pT st st'):Rs P st' T m x ok=Rs P st T m x ok:=by
 unfold Rs;cases m<;>try rfl
 simp only[hh _ _ hm.mp]
theorem AO {T:Nat} {m x y:AV} (hm:mK st.aQ m) (hh:pT st st'):tJ P st' T m x y=tJ P st T m x y:=by
 unfold tJ;cases m<;>try rfl
 simp only[hh _ _ hm.mp]
theorem GP {r:AV} {dst:Option Nat} (hc:∀d,dst=some d→st'.aQ d=st.aQ d):iW r st' dst=iW r st dst:=by
 unfold iW;cases dst with
 | none=>rfl
 | some d=>simp only[hc d rfl]
theorem xO (hp:AL st) {g:Nat} {args:List AV} {dst:Option Nat} (hx:∀x∈args,mK st.aQ x) (hh:pT st st') (hc:∀d,dst=some d→st'.aQ d=st.aQ d):aN call g args st' dst=aN call g args st dst:=by
 unfold aN;have:args.map (fO st')=args.map (fO st):=List.map_congr_left fun x Il=>Xh hp (hx x Il) hh
 rw[this];have h2:∀r,iW r st' dst=iW r st dst:=fun r=>GP hc
 simp only[h2]
theorem GQ (hp:AL st) {g:Nat} {args:List AV} {dst:Option Nat} (hx:∀x∈args,mK st.aQ x) (hh:pT st st') (hc:∀d,dst=some d→st'.aQ d=st.aQ d):lH call g args st' dst=lH call g args st dst:=by
 unfold lH;split
 ·rename_i s k rest;rw[hh _ _ (hx _ (List.mem_cons_self ..)).own];cases dst with
  | none=>rfl
  | some d=>simp only[hc d rfl]
 ·rw[xO hp hx hh hc]
theorem AP (hp:AL st) {g:Nat} {args:List AV} {dst:Option Nat} (hx:∀x∈args,mK st.aQ x) (hh:pT st st') (hc:∀d,dst=some d→st'.aQ d=st.aQ d):fC call g args st' dst=fC call g args st dst:=by
 have h1:=xO (call:=call) (g:=g) hp hx hh hc
 have:args.map (fO st')=args.map (fO st):=List.map_congr_left fun x Il=>Xh hp (hx x Il) hh
 unfold fC;rw[this,h1];have h2:∀r s k,Dm r st' dst s k=Dm r st dst s k:=fun r s k=>by
  unfold Dm;cases dst with
  | none=>cases r<;>rfl
  | some d=>cases r<;>simp only[hc d rfl]
 simp only[h2]
theorem Nu {parts:List (Nat × Operand)} (h:∀p∈parts,st'.ev p.2=st.ev p.2):(parts.map fun p=>(p.1,st'.ev p.2))=parts.map fun p=>(p.1,st.ev p.2) :=
 List.map_congr_left fun p hp=>by rw[h p hp]
theorem Ul {parts:List (Nat × Operand)} (h:∀p∈parts,st'.ev p.2=st.ev p.2):(parts.all fun p=>(st'.ev p.2).jL)=parts.all fun p=>(st.ev p.2).jL:=by
 induction parts with
 | nil=>rfl
 | cons p ps ih =>
   simp only[List.all_cons];rw[h p (by simp),ih fun q hq=>h q (by simp[hq])]
theorem v7 {aQ:Nat→Nat} {x:AV} {g:Nat} {oR:List AV} (h:EG x=some (g,oR)) (hx:mK aQ x):∀c∈oR,mK aQ c:=by
 unfold EG at h;split at h
 ·split at h
  ·simp only[Option.some.injEq,Prod.mk.injEq] at h;obtain⟨rfl,rfl⟩:=h
   simp
  ·cases h
 ·simp only[Option.some.injEq,Prod.mk.injEq] at h;obtain⟨rfl,rfl⟩:=h
  exact hx.Ev
 ·cases h
variable [Ext]
theorem AQ (hp:AL st) {c:Call} {dst:Option Nat} (he:∀p∈c.operands,st'.ev p=st.ev p) (hi:∀p∈c.operands,mK st.aQ (st.ev p)) (hh:pT st st') (hc:∀d,dst=some d→st'.aQ d=st.aQ d) :
 iE P call c dst st'=iE P call c dst st:=by
 have wF:∀p∈c.args.toList,p∈c.operands:=fun p hp=>by simp[Call.operands];right;simpa using hp
 unfold iE;split
 ·rename_i f hf;have hfo:f∈c.operands:=by simp[Call.operands,hf]
  have hm:c.args.toList.map st'.ev=c.args.toList.map st.ev:=List.map_congr_left fun p hp=>he p (wF p hp)
  have hia:∀x∈c.args.toList.map st.ev,mK st.aQ x:=fun x hx=>by
   obtain⟨p,hp,rfl⟩:=List.mem_map.1 hx
   exact hi p (wF p hp)
  unfold nM;rw[hm];split
  ·split
   ·exact GQ hp hia hh hc
   ·split
    ·exact AP hp hia hh hc
    ·exact xO hp hia hh hc
  ·rw[he f hfo];cases h:EG (st.ev f) with
   | none=>rfl
   | some gc =>
     obtain⟨g,oR⟩:=gc
     refine xO hp (fun x hx=>?_) hh hc
     rcases List.mem_append.1 hx with hx|hx
     ·exact hia x hx
     ·exact v7 h (hi f hfo) x hx
 ·split
  ·rename_i x T hx hT;have R2:=wF x (by rw[hx];simp)
   rw[he x R2,sC (hi x R2) hh]
  ·rfl
 ·split
  ·rename_i x y hx;rw[he x (wF x (by rw[hx];simp)),he y (wF y (by rw[hx];simp))]
  ·rfl
 ·split
  ·rename_i x y hx;rw[he x (wF x (by rw[hx];simp)),he y (wF y (by rw[hx];simp))]
  ·rfl
 ·cases dst with
  | none=>rfl
  | some d =>
  simp only[cD];split
  ·rename_i s x T T' hx hT
   have hso:=wF s (by rw[hx];simp)
   have R2:=wF x (by rw[hx];simp)
   have hn:Gd P st' T (st'.ev s) (st'.ev x)=Gd P st T (st.ev s) (st.ev x):=by simp only[Gd,he s hso,he x R2,sC (hi x R2) hh]
   rw[hn,he s hso,he x R2,AM (hi s hso) (hi x R2) hh,AN (hi s hso) (hi x R2) hh,hc d rfl]
  ·rfl
 ·split
  ·rename_i x T hx hT;have R2:=wF x (by rw[hx];simp)
   rw[he x R2,GO (hi x R2) hh]
  ·rfl
 ·rfl
theorem NA (hp:AL st) {o:Oper} (he:∀p∈o.op.operands,st'.ev p=st.ev p) (hi:∀p∈o.op.operands,mK st.aQ (st.ev p)) (hh:pT st st') (hc:∀d,o.dst=some d→st'.aQ d=st.aQ d) :
 dI P call o st'=dI P call o st:=by
 obtain⟨dst,op,type,pos,after,guard⟩:=o
 cases op<;>simp only[dI,iS,Op.operands] at *
 case call c=>exact AQ hp he hi hh hc
 case alloc T=>cases dst with
  | none=>rfl
  | some d=>simp only[cD,hc d rfl]
 case box T x=>cases dst with
  | none=>rfl
  | some d=>simp only[cD,hc d rfl,he x (by simp)]
 case buildSlice T n parts =>
  have zS:∀p∈parts.toList,st'.ev p.2=st.ev p.2:=fun p hp=>he p.2 (by simp;exact⟨p.1,by simpa using hp⟩)
  rw[Nu zS,Ul zS];cases dst with
  | none=>rfl
  | some d=>simp only[cD,hc d rfl]
 case makeSlice T l c =>
  rw[he l (by simp),he c (by simp)]
  cases dst with
  | none=>rfl
  | some d=>simp only[cD,hc d rfl]
 case makeMap T r =>
  cases r with
  | none=>cases dst with
    | none=>rfl
    | some d=>simp only[cD,hc d rfl]
  | some r=>rfl
 case mapUpdate T m x y=>rw[he m (by simp),he x (by simp),he y (by simp),AO (hi m (by simp)) hh]
 case lookup T m x ok=>rw[he m (by simp),he x (by simp),MZ (hi m (by simp)) hh]
 case store T x y=>rw[he x (by simp),he y (by simp),GN (hi x (by simp)) hh]
 case move x=>rw[he x (by simp)]
 case assign x=>rw[he x (by simp)]
 case pick c x y=>rw[he c (by simp),he x (by simp),he y (by simp)]
 case binOp op T x y yT=>rw[he x (by simp),he y (by simp)]
 case unOp op T x=>rw[he x (by simp)]
 case convert s d x=>rw[he x (by simp)]
 case nilCheck x=>rw[he x (by simp)]
 case field T x f=>rw[he x (by simp)]
 case fieldAddr T x f=>rw[he x (by simp)]
 case indexAddr T x i=>rw[he x (by simp),he i (by simp),Qp (hi x (by simp)) hh]
 case load T x=>rw[he x (by simp),GL (hi x (by simp)) hh]
 case extract t i=>rw[he t (by simp)]
 case build T parts =>
  have zS:∀p∈parts.toList,st'.ev p.2=st.ev p.2:=fun p hp=>he p.2 (by simp;exact⟨p.1,by simpa using hp⟩)
  unfold iR;rw[Nu zS,Ul zS]
 case slice T x lo Ce mx =>
  cases mx with
  | some m =>
    cases Ce with
    | none=>rfl
    | some h =>
      simp only
      rw[he x (by simp),Si (fun s g hx=>by have:=hi x (by simp);rw[hx] at this;exact hh _ _ this.own) (fun p hp=>he p (by simp[hp])) (he h (by simp)) (he m (by simp))]
  | none =>
    simp only
    rw[he x (by simp),GM (hi x (by simp)) hh (fun p hp=>he p (by simp[hp])) (fun p hp=>he p (by simp[hp]))]
 case makeFunc fn first captured =>
  cases fn with
  | func f =>
    simp only
    have:captured.toList.map st'.ev=captured.toList.map st.ev:=List.map_congr_left fun p hp=>he p (by simp;right;simpa using hp)
    rw[this]
  | _=>rfl
theorem GR {ops:Array Oper} {o:Oper} (Bg:mN ops o=0∨mN ops o=2) (he:∀p∈o.op.operands,st'.ev p=st.ev p) (hc:∀d,o.dst=some d→st'.aQ d=st.aQ d) :
 dI P call o st'=dI P call o st:=by
 obtain⟨dst,op,type,pos,after,guard⟩:=o
 cases op<;>simp only[dI,iS,Op.operands,mN] at *
 case call c =>
  exfalso
  obtain⟨callee,args,sZ⟩:=c
  cases callee with
  | builtin b=>cases b<;>simp at Bg;split at Bg<;>simp at Bg
  | value f=>cases f<;>simp at Bg;split at Bg<;>(try split at Bg)<;>(try split at Bg)<;>simp at Bg
  | _=>simp at Bg
 case alloc T=>cases dst with
  | none=>rfl
  | some d=>simp only[cD,hc d rfl]
 case box T x=>cases dst with
  | none=>rfl
  | some d=>simp only[cD,hc d rfl,he x (by simp)]
 case buildSlice T n parts =>
  have zS:∀p∈parts.toList,st'.ev p.2=st.ev p.2:=fun p hp=>he p.2 (by simp;exact⟨p.1,by simpa using hp⟩)
  rw[Nu zS,Ul zS];cases dst with
  | none=>rfl
  | some d=>simp only[cD,hc d rfl]
 case makeSlice T l c =>
  rw[he l (by simp),he c (by simp)]
  cases dst with
  | none=>rfl
  | some d=>simp only[cD,hc d rfl]
 case makeMap T r =>
  cases r with
  | none=>cases dst with
    | none=>rfl
    | some d=>simp only[cD,hc d rfl]
  | some r=>rfl
 case mapUpdate T m x y=>simp at Bg
 case lookup T m x ok=>simp at Bg
 case store T x y=>simp at Bg
 case move x=>rw[he x (by simp)]
 case assign x=>rw[he x (by simp)]
 case pick c x y=>rw[he c (by simp),he x (by simp),he y (by simp)]
 case binOp op T x y yT=>rw[he x (by simp),he y (by simp)]
 case unOp op T x=>rw[he x (by simp)]
 case convert s d x=>rw[he x (by simp)]
 case nilCheck x=>rw[he x (by simp)]
 case field T x f=>rw[he x (by simp)]
 case fieldAddr T x f=>rw[he x (by simp)]
 case indexAddr T x i=>simp at Bg
 case load T x=>simp at Bg
 case extract t i=>rw[he t (by simp)]
 case build T parts =>
  have zS:∀p∈parts.toList,st'.ev p.2=st.ev p.2:=fun p hp=>he p.2 (by simp;exact⟨p.1,by simpa using hp⟩)
  unfold iR;rw[Nu zS,Ul zS]
 case slice T x lo Ce mx=>simp at Bg
 case makeFunc fn first captured =>
  cases fn with
  | func f =>
    simp only
    have:captured.toList.map st'.ev=captured.toList.map st.ev:=List.map_congr_left fun p hp=>he p (by simp;right;simpa using hp)
    rw[this]
  | _=>rfl
end
end Go.Ab
end
section
namespace Go.Ab
open Classical
section
variable {P:Program} {call:Nat→List AV→Option AV} {st st':St} {ops:Array Oper}
theorem Nv {r:AV} {dst:Option Nat} {e:qT} (h:iW r st dst=some e):e.dst=dst∧e.dJ=none∧∀d x,e.new=some (d,x)→dst=some d:=by
 unfold iW at h;split at h
 ·simp only[Option.some.injEq] at h;subst h;exact⟨rfl,rfl,fun d x h=>by simp at h⟩
 ·cases dst with
  | none=>cases h
  | some d=>simp only[Option.some.injEq] at h;subst h;exact⟨rfl,rfl,fun d x h=>by simp at h;rw[h.1]⟩
theorem xP {g:Nat} {args:List AV} {dst:Option Nat} {e:qT} (h:aN call g args st dst=some e):e.dst=dst∧e.dJ=none∧∀d x,e.new=some (d,x)→dst=some d:=by
 unfold aN at h;split at h
 ·cases hc:call g args with
  | none=>simp[hc,cD] at h
  | some r=>simp only[hc,cD] at h;exact Nv h
 ·split at h
  ·rename_i xs _;cases hc:call g xs with
   | none=>simp[hc,cD] at h
   | some r =>
     simp only[hc,cD] at h;split at h
     ·exact Nv h
     ·cases h
  ·cases h
theorem Nw {g:Nat} {args:List AV} {dst:Option Nat} {e:qT} (h:lH call g args st dst=some e):e.dst=dst∧(∀d x,e.new=some (d,x)→dst=some d)∧∀s k x,e.dJ=some (s,k,x)→args.head? = some (.own s k):=by
 unfold lH at h;split at h
 ·split at h
  ·split at h
   ·split at h
    ·cases dst with
     | none=>cases h
     | some d =>
       simp only[Option.some.injEq] at h;subst h;exact⟨rfl,fun d x h=>by simp at h;rw[h.1],fun s k x h=>by simp at h;simp[h.1,h.2.1]⟩
    ·simp only[Option.some.injEq] at h;subst h;exact⟨rfl,fun d x h=>by simp at h,fun s k x h=>by simp at h;simp[h.1,h.2.1]⟩
    ·cases h
   ·cases h
  ·cases h
 ·split at h
  ·obtain⟨h1,h2,h3⟩:=xP h
   exact⟨h1,h3,fun s k x h=>by rw[h2] at h;cases h⟩
  ·cases h
theorem AR {g:Nat} {args:List AV} {dst:Option Nat} {e:qT} (h:fC call g args st dst=some e):e.dst=dst∧(∀d x,e.new=some (d,x)→dst=some d)∧∀s k x,e.dJ=some (s,k,x)→∃y∈args,y=.own s k∨∃cs,y=.agg cs∧.own s k∈cs:=by
 unfold fC at h;split at h
 ·rename_i s k hk;split at h
  ·split at h
   ·rename_i xs _;cases hc:call g xs with
    | none=>simp[hc,cD] at h
    | some r =>
      simp only[hc,cD] at h;have hu:e.dJ=some (s,k,none)∧e.dst=dst∧∀d x,e.new=some (d,x)→dst=some d:=by
       rcases Nt h with ⟨_,rfl⟩|⟨_,e1,sz,n,cs,d,rfl,rfl,_,rfl⟩
       ·exact⟨rfl,rfl,fun d x h=>by simp at h⟩
       ·exact⟨rfl,rfl,fun d x h=>by simp at h;rw[h.1]⟩
      ·refine⟨hu.2.1,hu.2.2,fun s' k' x h=>?_⟩
       rw[hu.1] at h;simp only[Option.some.injEq,Prod.mk.injEq] at h;obtain⟨rfl,rfl,_⟩:=h
       have hm:(s,k)∈args.flatMap iZ:=by rw[hk];simp
       obtain⟨y,hy,hyk⟩:=List.mem_flatMap.1 hm
       refine⟨y,hy, ?_⟩
       have key:∀c,(s,k)∈gH c→c=.own s k:=fun c hc=>by
        cases c<;>simp[gH] at hc
        obtain⟨rfl,rfl⟩:=hc
        rfl
       cases y with
       | agg cs =>
         obtain⟨c,hc,hck⟩:=List.mem_flatMap.1 (show (s,k)∈cs.flatMap gH from hyk)
         exact .inr ⟨cs,rfl,by rw[← key c hck];exact hc⟩
       | own a b=>exact .inl (key _ hyk)
       | _=>simp[iZ,gH] at hyk
   ·cases h
  ·cases h
 ·obtain⟨h1,h2,h3⟩:=xP h
  exact⟨h1,h3,fun s k x h=>by rw[h2] at h;cases h⟩
theorem oG (e:qT) (t:Nat):(e.apply st).env t=if e.dst=some t then e.val else st.env t:=by
 have h2:∀(s1:St),(s1.put e.dst e.val).env t=if e.dst=some t then e.val else s1.env t:=fun s1=>by
  cases hd:e.dst with
  | none=>simp[St.put]
  | some d =>
    simp only[St.put,Option.some.injEq];by_cases h:t=d
    ·subst h;simp
    ·rw[if_neg h,if_neg (fun h'=>h h'.symm)]
 unfold qT.apply;rw[h2];cases e.dJ<;>cases e.new<;>rfl
theorem lG (e:qT) (s:Nat):(e.apply st).aQ s=match e.new with
 | some (d,es)=>if s=d then st.aQ d+es.length else st.aQ s
 | none=>st.aQ s:=by
 unfold qT.apply;rw[WI];cases e.dJ<;>cases e.new<;>rfl
theorem sN (e:qT) (s g:Nat):(e.apply st).heap s g=match e.new with
 | some (d,es)=>if s=d∧st.aQ d≤g∧g-st.aQ d<es.length then es[g-st.aQ d]? else (match e.dJ with
   | some (s0,g0,y)=>if s=s0∧g=g0 then y else st.heap s g
   | none=>st.heap s g)
 | none=>(match e.dJ with
   | some (s0,g0,y)=>if s=s0∧g=g0 then y else st.heap s g
   | none=>st.heap s g):=by
 unfold qT.apply;rw[Uw];cases e.dJ<;>cases e.new<;>rfl
theorem R3 {o:Oper} (h:∀j want d,o.guard=some (j,want)→(ops[j]?).bind (·.dst)=some d→st'.env d=st.env d):gv ops st' o.guard=gv ops st o.guard:=by
 unfold gv;cases hg:o.guard with
 | none=>rfl
 | some jw =>
   obtain⟨j,want⟩:=jw
   simp only
   cases hd:(ops[j]?).bind (·.dst) with
   | none=>rfl
   | some d=>simp only[h j want d hg hd]
theorem R4 {a b:St} (h1:a.env=b.env) (h2:a.heap=b.heap) (h3:a.aQ=b.aQ):a=b:=by
 cases a;cases b;simp_all
theorem Xi {T:Nat} {p x:AV} {u:Nat × Nat × nD × Nat} (h:kM P st T p x=some u):∃n,p=.vw u.1 u.2.1 0 n:=by
 unfold kM at h;split at h
 ·split at h
  ·split at h
   ·simp only[Option.some.injEq] at h;subst h;exact⟨_,rfl⟩
   ·cases h
  ·cases h
 ·cases h
theorem v8 {T:Nat} {p:AV} {u:Nat × Nat × nD} (h:tK P st T p=some (some u)):∃o n,p=.vw u.1 u.2.1 o n:=by
 unfold tK at h;split at h
 ·split at h
  ·split at h
   ·simp only[Option.some.injEq] at h;subst h;exact⟨_,_,rfl⟩
   ·cases h
  ·cases h
 ·simp at h
 ·simp at h
 ·cases h
variable [Ext]
theorem NB {o:Oper} {e:qT} (h:dI P call o st=some e) :
 e.dst=o.dst∧(∀d x,e.new=some (d,x)→o.dst=some d)∧(∀s g x,e.dJ=some (s,g,x)→mN ops o=3∧∃p∈o.op.operands,(∃off,st.ev p=.ptr s g off)∨st.ev p=.own s g∨st.ev p=.mp s g∨(∃cs,st.ev p=.agg cs∧.own s g∈cs)∨∃o n,st.ev p=.vw s g o n):=by
 obtain⟨dst,op,type,pos,after,guard⟩:=o
 have val:∀x:Option AV,(x.map fun y=>({ dst:=dst,val:=y }:qT))=some e→e.dst=dst∧(∀d x,e.new=some (d,x)→dst=some d)∧(∀s g x,e.dJ≠some (s,g,x)):=fun x h=>by
  cases x with
  | none=>simp at h
  | some y=>simp at h;subst h;exact⟨rfl,fun d x h=>by simp at h,fun s g x h=>by simp at h⟩
 cases op
 case call c =>
  simp only[dI] at h;unfold iE at h;split at h
  ·rename_i f hc;unfold nM at h;split at h
   ·rename_i g;split at h
    ·rename_i hmv;obtain⟨h1,h2,h3⟩:=Nw h
     refine⟨h1,h2,fun s k x hu=>?_⟩
     have hh:=h3 s k x hu
     obtain⟨callee,args,sZ⟩:=c
     simp only at hc hh
     subst hc;cases hl:args.toList with
     | nil=>rw[hl] at hh;simp at hh
     | cons p ps =>
       rw[hl] at hh;simp only[List.map_cons,List.head?_cons,Option.some.injEq] at hh;refine⟨?_,p, ?_,.inr (.inl hh)⟩
       ·simp only[mN,hl,hmv];cases p with
        | const v=>simp[St.ev] at hh
        | _=>simp
       simp only[Op.operands,Call.operands];simp
       right
       rw[← Array.mem_toList_iff,hl];simp
    ·split at h
     ·rename_i heat;obtain⟨h1,h2,h3⟩:=AR h
      refine⟨h1,h2,fun s k x hu=>?_⟩
      obtain⟨y,hy,hyo⟩:=h3 s k x hu
      obtain⟨callee,args,sZ⟩:=c
      simp only at hc hy
      subst hc;refine⟨by simp[mN,heat], ?_⟩
      obtain⟨p,hp,rfl⟩:=List.mem_map.1 hy
      refine⟨p, ?_, ?_⟩
      ·simp only[Op.operands,Call.operands];simp
       right
       simpa using hp
      ·rcases hyo with h|⟨cs,h,hm⟩
       ·exact .inr (.inl h)
       ·exact .inr (.inr (.inr (.inl ⟨cs,h,hm⟩)))
     ·obtain⟨h1,h2,h3⟩:=xP h
      exact⟨h1,h3,fun s g x h=>by rw[h2] at h;cases h⟩
   ·split at h
    ·obtain⟨h1,h2,h3⟩:=xP h
     exact⟨h1,h3,fun s g x h=>by rw[h2] at h;cases h⟩
    ·cases h
  ·split at h
   ·split at h
    ·simp only[Option.some.injEq] at h;subst h;exact⟨rfl,fun d x h=>by simp at h,fun s g x h=>by simp at h⟩
    ·cases h
   ·cases h
  ·split at h
   ·split at h
    ·simp only[Option.some.injEq] at h;subst h;exact⟨rfl,fun d x h=>by simp at h,fun s g x h=>by simp at h⟩
    ·cases h
   ·cases h
  ·split at h
   ·split at h
    ·simp only[Option.some.injEq] at h;subst h;exact⟨rfl,fun d x h=>by simp at h,fun s g x h=>by simp at h⟩
    ·cases h
   ·cases h
  ·rename_i hc;cases dst with
   | none=>simp[cD] at h
   | some d =>
     simp only[cD] at h;split at h
     ·rename_i s x T T' hx hT
      split at h
      ·split at h
       ·cases nG:kM P st T (st.ev s) (st.ev x) with
        | none=>simp[nG] at h
        | some u =>
        simp only[nG,Option.map_some,Option.some.injEq] at h;subst h;refine⟨rfl,nofun,fun s' g' x' hu=>?_⟩
        simp only[Option.some.injEq,Prod.mk.injEq] at hu;obtain⟨rfl,rfl,rfl⟩:=hu
        obtain⟨n0,zG⟩:=Xi nG
        refine⟨?_,s, ?_,.inr (.inr (.inr (.inr ⟨0,n0,zG⟩)))⟩
        ·obtain⟨callee,args,sZ⟩:=c
         simp only at hc hx
         subst hc;simp only[mN,hx];cases s with
         | const v =>
           simp[St.ev] at zG
         | _=>rfl
        ·simp only[Op.operands,Call.operands,hc];simp
         rw[← Array.mem_toList_iff,hx];simp
       split at h
       ·simp only[Option.some.injEq] at h;subst h;exact⟨rfl,nofun,nofun⟩
       cases nG:dC P st T (st.ev s) (st.ev x) with
       | none=>simp[nG] at h
       | some ur =>
         obtain⟨u,r⟩:=ur
         simp only[nG,Option.some.injEq] at h;subst h;refine⟨rfl,fun d x h=>by simp at h;rw[h.1],fun s' g' x' hu=>?_⟩
         simp only[Option.map_eq_some_iff] at hu;obtain⟨⟨s2,g2⟩,hu1,hu2⟩:=hu
         simp only[Prod.mk.injEq] at hu2;obtain⟨rfl,rfl,rfl⟩:=hu2
         subst hu1;have zG:st.ev s=.own s2 g2:=by
          unfold dC at nG;split at nG
          ·split at nG
           ·split at nG
            ·split at nG
             ·split at nG<;>simp at nG
             ·rename_i s3 g3 hs3;split at nG
              ·split at nG
               ·simp only[Option.some.injEq,Prod.mk.injEq] at nG;obtain⟨⟨rfl,rfl⟩,_⟩:=nG
                exact hs3
               ·cases nG
              ·cases nG
             ·split at nG<;>simp at nG
             ·cases nG
            ·cases nG
           ·cases nG
          ·cases nG
         refine⟨?_,s, ?_,.inr (.inl zG)⟩
         ·obtain⟨callee,args,sZ⟩:=c
          simp only at hc hx
          subst hc;simp only[mN,hx];cases s with
          | const v =>
            simp[St.ev] at zG
          | _=>rfl
         ·simp only[Op.operands,Call.operands,hc];simp
          rw[← Array.mem_toList_iff,hx];simp
      ·cases h
     ·cases h
  ·rename_i hc;split at h
   ·rename_i x T hx hT;cases nG:tK P st T (st.ev x) with
    | none=>simp[nG] at h
    | some u =>
      simp only[nG,Option.map_some,Option.some.injEq] at h;subst h;refine⟨rfl,nofun,fun s' g' x' hu=>?_⟩
      simp only[Option.map_eq_some_iff,Prod.mk.injEq] at hu;obtain⟨p,rfl,rfl,rfl,_⟩:=hu
      obtain⟨o,n,zG⟩:=v8 nG
      refine⟨?_,x, ?_,.inr (.inr (.inr (.inr ⟨o,n,zG⟩)))⟩
      ·obtain⟨callee,args,sZ⟩:=c
       simp only at hc
       subst hc;rfl
      ·simp only[Op.operands,Call.operands,hc];simp
       rw[← Array.mem_toList_iff,hx];simp
   ·cases h
  ·cases h
 case store T x y =>
  simp only[dI] at h;cases hs:pO P st T (st.ev x) (st.ev y) with
  | none=>simp[hs] at h
  | some u =>
    obtain⟨s,g,e'⟩:=u
    simp only[hs,Option.map_some,Option.some.injEq] at h;subst h;refine⟨rfl,fun d x h=>by simp at h,fun s' g' x' hu=>⟨rfl,x,by simp[Op.operands],.inl ?_⟩⟩
    simp only[Option.some.injEq,Prod.mk.injEq] at hu;obtain⟨rfl,rfl,_⟩:=hu
    unfold pO at hs;split at hs
    ·rename_i s1 g1 o1 hp;refine⟨o1, ?_⟩
     rw[hp];split at hs
     ·split at hs
      ·split at hs
       ·split at hs
        ·simp only[Option.some.injEq,Prod.mk.injEq] at hs;rw[hs.1,hs.2.1]
        ·cases hs
       ·split at hs
        ·simp only[Option.some.injEq,Prod.mk.injEq] at hs;rw[hs.1,hs.2.1]
        ·cases hs
       ·cases hs
      ·cases hs
     ·cases hs
    ·cases hs
 case alloc T =>
  simp only[dI] at h;cases dst with
  | none=>simp[cD] at h
  | some d=>cases hz:dZ P T with
    | none=>simp[hz,cD] at h
    | some z=>simp only[hz,cD,Option.some.injEq] at h;subst h;exact⟨rfl,fun d x h=>by simp at h;rw[h.1],fun s g x h=>by simp at h⟩
 case box T x =>
  simp only[dI] at h;cases dst with
  | none=>simp[cD] at h
  | some d =>
    simp only[cD] at h;split at h
    ·simp only[Option.some.injEq] at h;subst h;exact⟨rfl,fun d x h=>by simp at h;rw[h.1],fun s g x h=>by simp at h⟩
    ·cases h
 case buildSlice T n parts =>
  simp only[dI] at h;cases dst with
  | none=>simp[cD] at h
  | some d=>cases hs:dL P T with
    | none=>simp[hs,cD] at h
    | some t=>cases hz:dZ P t.1 with
      | none=>simp[hs,hz,cD] at h
      | some z =>
        simp only[hs,hz,cD] at h;split at h
        ·cases hf:gM (fun i=>some (i * t.2.1,t.2.1)) ((List.range n).flatMap fun _=>z.map .v) (parts.toList.map fun p=>(p.1,st.ev p.2)) with
         | none=>simp[hf] at h
         | some cs=>simp only[hf,Option.some.injEq] at h;subst h;exact⟨rfl,fun d x h=>by simp at h;rw[h.1],fun s g x h=>by simp at h⟩
        ·cases h
 case makeSlice T l c =>
  simp only[dI] at h;cases dst with
  | none=>simp[cD] at h
  | some d=>cases hs:dL P T with
    | none=>simp[hs,cD] at h
    | some t=>cases hz:dZ P t.1 with
      | none=>simp[hs,hz,cD] at h
      | some z =>
        simp only[hs,hz,cD] at h;split at h
        ·split at h
         ·simp only[Option.some.injEq] at h;subst h;exact⟨rfl,fun d x h=>by simp at h;rw[h.1],fun s g x h=>by simp at h⟩
         ·cases h
        ·cases h
 case makeMap T r =>
  cases r with
  | none =>
    simp only[dI] at h;cases dst with
    | none=>simp[cD] at h
    | some d=>simp only[cD,Option.some.injEq] at h;subst h;exact⟨rfl,fun d x h=>by simp at h;rw[h.1],fun s g x h=>by simp at h⟩
  | some r =>
    simp only[dI] at h;obtain⟨h1,h2,h3⟩:=val _ h
    exact⟨h1,h2,fun s g x hu=>absurd hu (h3 s g x)⟩
 case mapUpdate T m x y =>
  simp only[dI] at h;cases hs:tJ P st T (st.ev m) (st.ev x) (st.ev y) with
  | none=>simp[hs] at h
  | some u =>
    obtain⟨s,g,e'⟩:=u
    simp only[hs,Option.map_some,Option.some.injEq] at h;subst h;refine⟨rfl,fun d x h=>by simp at h,fun s' g' x' hu=>⟨rfl,m,by simp[Op.operands],.inr (.inr (.inl ?_))⟩⟩
    simp only[Option.some.injEq,Prod.mk.injEq] at hu;obtain⟨rfl,rfl,_⟩:=hu
    unfold tJ at hs;split at hs
    ·rename_i s1 g1 hp;rw[hp];split at hs
     ·split at hs
      ·simp only[Option.some.injEq,Prod.mk.injEq] at hs;rw[hs.1,hs.2.1]
      ·cases hs
     ·cases hs
    ·cases hs
 all_goals
  simp only[dI] at h;obtain⟨h1,h2,h3⟩:=val _ h
  exact⟨h1,h2,fun s g x hu=>absurd hu (h3 s g x)⟩
noncomputable def rL (P:Program) (call:Nat→List AV→Option AV) (ops:Array Oper) (o:Oper) (st:St):Option qT :=
 match gv ops st o.guard with
 | some b=>if b=true then dI P call o st else some { dst:=o.dst,val:=.v undef }
 | none=>none
theorem El (o:Oper):bZ P call ops o st=(rL P call ops o st).map fun e=>e.apply st:=by
 unfold bZ rL;cases gv ops st o.guard with
 | none=>rfl
 | some b=>cases b<;>rfl
theorem oQ {o:Oper} {e:qT} (h:rL P call ops o st=some e) :
 e.dst=o.dst∧(∀d x,e.new=some (d,x)→o.dst=some d)∧(∀s g x,e.dJ=some (s,g,x)→mN ops o=3∧∃p∈o.op.operands,(∃off,st.ev p=.ptr s g off)∨st.ev p=.own s g∨st.ev p=.mp s g∨(∃cs,st.ev p=.agg cs∧.own s g∈cs)∨∃o n,st.ev p=.vw s g o n):=by
 unfold rL at h;split at h
 ·split at h
  ·exact NB h
  ·simp only[Option.some.injEq] at h;subst h;exact⟨rfl,fun d x h=>by simp at h,fun s g x h=>by simp at h⟩
 ·cases h
theorem Sj (hp:AL st) {x y:Oper} {ex:qT} (nG:rZ ops x y=true∨rZ ops y x=true) (Kv:∀t,mK st.aQ (st.env t)) (hx:rL P call ops x st=some ex) :
 rL P call ops y (ex.apply st)=rL P call ops y st:=by
 obtain⟨sd,sn,su⟩:=oQ hx
 have XS:(∀d,x.dst=some d→d ∉ y.looksAt ops)∧(∀d,x.dst=some d→y.dst≠some d):=by
  rcases nG with h|h
  ·simp only[rZ,Bool.and_eq_true] at h;obtain⟨h1,h2,_⟩:=Oper.apart_spec h.1
   exact⟨h1,h2⟩
  ·simp only[rZ,Bool.and_eq_true] at h;obtain⟨_,h2,h3⟩:=Oper.apart_spec h.1
   exact⟨h3,fun d hd hy=>h2 d hy hd⟩
 have henv:∀t,t∈y.looksAt ops→(ex.apply st).env t=st.env t:=fun t ht=>by
  rw[oG,if_neg];intro h;rw[sd] at h;exact XS.1 t h ht
 have Zt:∀p∈y.op.operands,(ex.apply st).ev p=st.ev p:=fun p hp=>by
  cases p with
  | tmp t=>exact henv t (by unfold Oper.looksAt;exact List.mem_append_left _ (List.mem_filterMap.2 ⟨.tmp t,by simpa using hp,rfl⟩))
  | _=>rfl
 have R5:gv ops (ex.apply st) y.guard=gv ops st y.guard:=R3 fun j want d hg hd=>henv d (by
  unfold Oper.looksAt;apply List.mem_append_right
  rw[hg];simp[hd])
 have hcnt:∀d,y.dst=some d→(ex.apply st).aQ d=st.aQ d:=fun d hd=>by
  rw[lG];split
  ·rename_i d' z hn
   have:=sn d' z hn
   rw[if_neg];rintro rfl
   exact XS.2 d this hd
  ·rfl
 have Th:∀p∈y.op.operands,mK st.aQ (st.ev p):=fun p hp=>by
  cases p with
  | tmp t=>exact Kv t
  | const v=>exact⟨⟨fun _ _=>False,fun _ _=>undef,st.aQ⟩,v,rfl,.v v⟩
  | global g=>exact⟨⟨fun _ _=>False,fun _ _=>undef,st.aQ⟩,_,rfl,.v _⟩
  | func f=>exact⟨⟨fun _ _=>False,fun _ _=>undef,st.aQ⟩,_,rfl,.v _⟩
 have pV:dI P call y (ex.apply st)=dI P call y st:=by
  by_cases h3:mN ops x=3
  ·refine GR (ops:=ops) ?_ Zt hcnt
   have hle:mN ops y=0∨mN ops y=1∨mN ops y=2∨mN ops y=3∨mN ops y=4:=by
    unfold mN;split<;>(try split)<;>(try split)<;>(try split)<;>simp
   rcases nG with h|h<;>simp only[rZ,Bool.and_eq_true,h3] at h<;>rcases hle with e|e|e|e|e<;>simp[e] at h ⊢
  ·have hnu:ex.dJ=none:=by
    cases hu:ex.dJ with
    | none=>rfl
    | some sgx=>exact absurd (su sgx.1 sgx.2.1 sgx.2.2 hu).1 h3
   refine NA hp Zt Th (fun s g bB=>?_) hcnt
   rw[sN,hnu];split
   ·rename_i d z hn;rw[if_neg];rintro⟨rfl,h,_⟩
    omega
   ·rfl
 unfold rL;rw[R5,pV]
theorem GS {o:Oper} {e:qT} {s g:Nat} {z:Option nD} (Kv:∀t,mK st.aQ (st.env t)) (h:rL P call ops o st=some e) (hu:e.dJ=some (s,g,z)):g<st.aQ s:=by
 obtain⟨_,_,su⟩:=oQ h
 obtain⟨_,p,hp,hv⟩:=su s g z hu
 have Th:mK st.aQ (st.ev p):=by
  cases p with
  | tmp t=>exact Kv t
  | const v=>exact⟨⟨fun _ _=>False,fun _ _=>undef,st.aQ⟩,v,rfl,.v v⟩
  | global g=>exact⟨⟨fun _ _=>False,fun _ _=>undef,st.aQ⟩,_,rfl,.v _⟩
  | func f=>exact⟨⟨fun _ _=>False,fun _ _=>undef,st.aQ⟩,_,rfl,.v _⟩
 rcases hv with ⟨off,hv⟩|hv|hv|⟨cs,hv,hm⟩|⟨o,n,hv⟩
 ·rw[hv] at Th;exact Th.ptr
 ·rw[hv] at Th;exact Th.own
 ·rw[hv] at Th;exact Th.mp
 ·rw[hv] at Th;exact (Th.agg _ hm).own
 ·rw[hv] at Th;exact Th.vw
theorem aBW (hp:AL st) {x y:Oper} (nG:rZ ops x y=true) (Kv:∀t,mK st.aQ (st.env t)) {s1 s2:St} (hx:bZ P call ops x st=some s1) (hy:bZ P call ops y s1=some s2) :
 ∃s3,bZ P call ops y st=some s3∧bZ P call ops x s3=some s2:=by
 rw[El] at hx hy;cases hex:rL P call ops x st with
 | none=>simp[hex] at hx
 | some ex =>
   simp only[hex,Option.map_some,Option.some.injEq] at hx;subst hx;rw[Sj hp (.inl nG) Kv hex] at hy;cases XT:rL P call ops y st with
   | none=>simp[XT] at hy
   | some ey =>
     simp only[XT,Option.map_some,Option.some.injEq] at hy;subst hy;refine⟨ey.apply st,by rw[El,XT];rfl, ?_⟩
     rw[El,Sj hp (.inr nG) Kv XT,hex];simp only[Option.map_some,Option.some.injEq];obtain⟨dx,nx,ux⟩:=oQ hex
     obtain⟨dy,ny,uy⟩:=oQ XT
     have hd:∀d,x.dst=some d→y.dst≠some d:=by
      simp only[rZ,Bool.and_eq_true] at nG;exact (Oper.apart_spec nG.1).2.1
     have Bg:¬(ex.dJ≠none∧ey.dJ≠none):=by
      rintro⟨h1,h2⟩
      cases hu:ex.dJ with
      | none=>exact h1 hu
      | some a=>cases hv:ey.dJ with
        | none=>exact h2 hv
        | some b =>
          have e1:=(ux a.1 a.2.1 a.2.2 hu).1
          have e2:=(uy b.1 b.2.1 b.2.2 hv).1
          simp[rZ,e1,e2] at nG
     apply R4
     ·funext t
      rw[oG,oG,oG,oG,dx,dy];by_cases h1:x.dst=some t
      ·rw[if_pos h1,if_pos h1,if_neg (hd t h1)]
      ·rw[if_neg h1,if_neg h1]
     ·funext s g
      rw[sN,sN,sN,sN];have cx:∀d z,ey.new=some (d,z)→(ex.apply st).aQ d=st.aQ d:=fun d z hn=>by
       rw[lG];split
       ·rename_i d' z' Iw
        rw[if_neg];rintro rfl
        exact hd _ (nx _ _ Iw) (ny _ _ hn)
       ·rfl
      have cy:∀d z,ex.new=some (d,z)→(ey.apply st).aQ d=st.aQ d:=fun d z hn=>by
       rw[lG];split
       ·rename_i d' z' Iw
        rw[if_neg];rintro rfl
        exact hd _ (nx _ _ hn) (ny _ _ Iw)
       ·rfl
      cases v9:ex.new with
      | none =>
        cases QW:ey.new with
        | none =>
          cases hux:ex.dJ with
          | none=>rfl
          | some a=>cases huy:ey.dJ with
            | none=>rfl
            | some b=>exact absurd ⟨by rw[hux];simp,by rw[huy];simp⟩ Bg
        | some b =>
          obtain⟨d,z⟩:=b
          simp only[cx d z QW];cases hux:ex.dJ with
          | none=>rfl
          | some a =>
            obtain⟨s0,g0,e0⟩:=a
            have bB:=GS Kv hex hux
            cases huy:ey.dJ with
            | none =>
              simp only
              by_cases h1:s=d∧st.aQ d≤g∧g-st.aQ d<z.length
              ·rw[if_neg (by obtain⟨rfl,ha,hb⟩:=h1;rintro⟨rfl,rfl⟩;omega),if_pos h1,if_pos h1]
              ·rw[if_neg h1,if_neg h1]
            | some b=>exact absurd ⟨by rw[hux];simp,by rw[huy];simp⟩ Bg
      | some a =>
        obtain⟨d,z⟩:=a
        cases QW:ey.new with
        | none =>
          simp only[cy d z v9];cases huy:ey.dJ with
          | none=>rfl
          | some a =>
            obtain⟨s0,g0,e0⟩:=a
            have bB:=GS Kv XT huy
            cases hux:ex.dJ with
            | none =>
              simp only
              by_cases h1:s=d∧st.aQ d≤g∧g-st.aQ d<z.length
              ·rw[if_pos h1,if_neg (by obtain⟨rfl,ha,hb⟩:=h1;rintro⟨rfl,rfl⟩;omega),if_pos h1]
              ·rw[if_neg h1,if_neg h1]
            | some b=>exact absurd ⟨by rw[hux];simp,by rw[huy];simp⟩ Bg
        | some b =>
          obtain⟨d',z'⟩:=b
          simp only[cy d z v9,cx d' z' QW];have w8:d≠d':=by
           rintro rfl
           exact hd _ (nx _ _ v9) (ny _ _ QW)
          cases hux:ex.dJ with
          | none =>
            cases huy:ey.dJ with
            | none =>
              simp only
              by_cases h1:s=d∧st.aQ d≤g∧g-st.aQ d<z.length
              ·rw[if_pos h1,if_pos h1,if_neg (fun h=>w8 (h1.1.symm.trans h.1))]
              ·rw[if_neg h1,if_neg h1]
            | some b =>
              obtain⟨s0,g0,e0⟩:=b
              have bB:=GS Kv XT huy
              simp only
              by_cases h1:s=d∧st.aQ d≤g∧g-st.aQ d<z.length
              ·rw[if_pos h1,if_pos h1,if_neg (fun h=>w8 (h1.1.symm.trans h.1)),if_neg (by obtain⟨rfl,ha,hb⟩:=h1;rintro⟨rfl,rfl⟩;omega)]
              ·rw[if_neg h1,if_neg h1]
          | some a =>
            obtain⟨s0,g0,e0⟩:=a
            have bB:=GS Kv hex hux
            cases huy:ey.dJ with
            | none =>
              simp only
              by_cases h1:s=d∧st.aQ d≤g∧g-st.aQ d<z.length
              ·rw[if_pos h1,if_pos h1,if_neg (fun h=>w8 (h1.1.symm.trans h.1))]
              ·rw[if_neg h1,if_neg h1];by_cases h2:s=d'∧st.aQ d'≤g∧g-st.aQ d'<z'.length
               ·rw[if_pos h2,if_neg (by obtain⟨rfl,ha,hb⟩:=h2;rintro⟨rfl,rfl⟩;omega),if_pos h2]
               ·rw[if_neg h2,if_neg h2]
            | some b=>exact absurd ⟨by rw[hux];simp,by rw[huy];simp⟩ Bg
     ·funext s
      cases v9:ex.new with
      | none=>cases QW:ey.new<;>simp only[lG,v9,QW]
      | some a =>
        obtain⟨d,z⟩:=a
        cases QW:ey.new with
        | none=>simp only[lG,v9,QW]
        | some b =>
          obtain⟨d',z'⟩:=b
          have w8:d≠d':=by
           rintro rfl
           exact hd _ (nx _ _ v9) (ny _ _ QW)
          simp only[lG,v9,QW];rw[if_neg w8,if_neg (Ne.symm w8)];by_cases h1:s=d
          ·subst h1;rw[if_neg w8,if_pos rfl,if_neg w8]
          ·rw[if_neg h1,if_neg h1]
def Hf (st st':St) (x:AV):Prop:=∀s g,keyOf x=some (some (s,g))→st'.heap s g=st.heap s g
theorem TS {x:AV} (h:Hf st st' x):qC st' x=qC st x:=by
 cases x<;>simp only[qC]
 rw[h _ _ rfl]
theorem vS {x:AV} (h:Hf st st' x):aR st' x=aR st x:=by
 cases x
 case own=>simp only[aR,h _ _ rfl]
 case vw=>simp only[aR,h _ _ rfl]
 case v y =>
  cases y
  case slice p n c=>cases p<;>cases n<;>cases c<;>rfl
  all_goals rfl
 all_goals rfl
theorem Xj {T:Nat} {x i:AV} (h:Hf st st' x):bD P st' T x i=bD P st T x i:=by
 unfold bD;cases x<;>try rfl
 simp only[h _ _ rfl]
theorem TT {T:Nat} {x y:AV} (h:Hf st st' x):pO P st' T x y=pO P st T x y:=by
 unfold pO;cases x<;>try rfl
 simp only[h _ _ rfl]
theorem TU {T:Nat} {x:AV} {lo hi:Option Operand} (hx:Hf st st' x) (hl:∀p,lo=some p→st'.ev p=st.ev p) (Ce:∀p,hi=some p→st'.ev p=st.ev p):cW P st' T x lo hi=cW P st T x lo hi :=
 Xg (fun s g h=>by
  rcases h with ⟨o,rfl⟩|rfl|⟨o,n,rfl⟩<;>exact hx _ _ rfl) hl Ce
theorem NC {T:Nat} {s x:AV} (hs:Hf st st' s) (hx:Hf st st' x):dC P st' T s x=dC P st T s x:=by
 unfold dC;rw[vS hx];cases s
 case own=>simp only[hs _ _ rfl]
 case v y =>
  cases y
  case slice p n c=>cases p<;>cases n<;>cases c<;>rfl
  all_goals rfl
 all_goals rfl
theorem ND {T:Nat} {s x:AV} (hs:Hf st st' s) (hx:Hf st st' x):kM P st' T s x=kM P st T s x:=by
 unfold kM;rw[vS hx];cases dL P T with
 | none=>rfl
 | some t=>cases aR st x with
   | none=>rfl
   | some mn =>
     cases s<;>try rfl
     case vw s g o n =>
      cases o with
      | zero=>simp only[hs _ _ rfl]
      | succ o=>rfl
theorem TV {r:AV} {dst:Option Nat} (hc:∀d,dst=some d→st'.aQ d=st.aQ d):iW r st' dst=iW r st dst:=by
 unfold iW;cases dst with
 | none=>rfl
 | some d=>simp only[hc d rfl]
theorem TW {g:Nat} {x:AV} {args:List AV} {dst:Option Nat} (hx:Hf st st' x) (hc:∀d,dst=some d→st'.aQ d=st.aQ d):lH call g (x :: args) st' dst=lH call g (x :: args) st dst:=by
 unfold lH;split
 ·rename_i s k rest heq;simp only[List.cons.injEq] at heq;obtain⟨rfl,rfl⟩:=heq
  rw[hx _ _ rfl];cases dst with
  | none=>rfl
  | some d=>simp only[hc d rfl]
 ·split
  ·rename_i hf;unfold aN;rw[if_pos hf,if_pos hf];have h2:∀r,iW r st' dst=iW r st dst:=fun r=>TV hc
   simp only[h2]
  ·rfl
theorem AS {o:Oper} {aS:List Nat} (h:gS o=some aS):o.guard=none:=by
 unfold gS at h;split at h
 ·cases h
 ·assumption
theorem GU {o:Oper} {aS:List Nat} (ha:gS o=some aS):rL P call ops o st=dI P call o st:=by
 unfold rL;rw[AS ha];rfl
inductive Sk:Op→List Nat→Prop
 | load (T a:Nat):Sk (.load T (.tmp a)) [a]
 | store (T a:Nat) (x:Operand):Sk (.store T (.tmp a) x) [a]
 | indexAddr (T a:Nat) (x:Operand):Sk (.indexAddr T (.tmp a) x) [a]
 | slice (T a:Nat) (lo hi mx:Option Operand):Sk (.slice T (.tmp a) lo hi mx) [a]
 | len (a:Nat) (args:Array Operand) (sZ:Array Nat) (h:args.toList=[.tmp a]):Sk (.call ⟨.builtin .len,args,sZ⟩) [a]
 | append (a b:Nat) (args:Array Operand) (sZ:Array Nat) (h:args.toList=[.tmp a,.tmp b]):Sk (.call ⟨.builtin .append,args,sZ⟩) [a,b]
 | mv (g a:Nat) (r:List Operand) (args:Array Operand) (sZ:Array Nat) (h:args.toList=.tmp a :: r) (hg:Ext.mv g=true):Sk (.call ⟨.value (.func g),args,sZ⟩) [a]
theorem Nx {o:Oper} {aS:List Nat} (h:gS o=some aS):Sk o.op aS:=by
 unfold gS at h;split at h
 ·cases h
 ·split at h
  ·rename_i T a ho;simp only[Option.some.injEq] at h;subst h;rw[ho];exact .load T a
  ·rename_i T a x ho;simp only[Option.some.injEq] at h;subst h;rw[ho];exact .store T a x
  ·rename_i T a x ho;simp only[Option.some.injEq] at h;subst h;rw[ho];exact .indexAddr T a x
  ·rename_i T a lo hi mx ho;simp only[Option.some.injEq] at h;subst h;rw[ho];exact .slice T a lo hi mx
  ·rename_i args sZ ho;split at h
   ·rename_i a hl;simp only[Option.some.injEq] at h;subst h;rw[ho];exact .len a args sZ hl
   ·cases h
  ·rename_i args sZ ho;split at h
   ·rename_i a b hl;simp only[Option.some.injEq] at h;subst h;rw[ho];exact .append a b args sZ hl
   ·cases h
  ·rename_i g args sZ ho;split at h
   ·rename_i a r hl;split at h
    ·rename_i hg;simp only[Option.some.injEq] at h;subst h;rw[ho];exact .mv g a r args sZ hl hg
    ·cases h
   ·cases h
  ·cases h
theorem y7 {T s g:Nat} {p x:AV} {e':nD} (hs:pO P st T p x=some (s,g,e')):∃o,p=.ptr s g o:=by
 unfold pO at hs;split at hs
 ·rename_i s1 g1 o1;split at hs
  ·split at hs
   ·split at hs
    ·split at hs
     ·simp only[Option.some.injEq,Prod.mk.injEq] at hs;obtain⟨rfl,rfl,_⟩:=hs;exact⟨_,rfl⟩
     ·cases hs
    ·split at hs
     ·simp only[Option.some.injEq,Prod.mk.injEq] at hs;obtain⟨rfl,rfl,_⟩:=hs;exact⟨_,rfl⟩
     ·cases hs
    ·cases hs
   ·cases hs
  ·cases hs
 ·cases hs
theorem TX {T s g:Nat} {p x:AV} {r:nD} (nG:dC P st T p x=some (some (s,g),r)):p=.own s g:=by
 unfold dC at nG;split at nG
 ·split at nG
  ·split at nG
   ·split at nG
    ·split at nG<;>simp at nG
    ·rename_i s3 g3;split at nG
     ·split at nG
      ·simp only[Option.some.injEq,Prod.mk.injEq] at nG;obtain⟨⟨rfl,rfl⟩,_⟩:=nG
       rfl
      ·cases nG
     ·cases nG
    ·split at nG<;>simp at nG
    ·cases nG
   ·cases nG
  ·cases nG
 ·cases nG
theorem Qq {o:Oper} {aS:List Nat} {e:qT} (ha:gS o=some aS) (h:rL P call ops o st=some e) :
 ∀s g z,e.dJ=some (s,g,z)→∃a∈aS,keyOf (st.env a)=some (some (s,g)):=by
 rw[GU ha] at h;have hk:=Nx ha
 clear ha
 obtain⟨dst,op,type,pos,after,guard⟩:=o
 have val:∀(v:Option AV),(v.map fun x=>({ dst:=dst,val:=x }:qT))=some e→e.dJ=none:=fun v hv=>by
  cases v with
  | none=>cases hv
  | some v=>simp only[Option.map_some,Option.some.injEq] at hv;subst hv;rfl
 intro s g z hu;cases hk
 case load T a=>simp only[dI] at h;rw[val _ h] at hu;cases hu
 case indexAddr T a x=>simp only[dI] at h;rw[val _ h] at hu;cases hu
 case slice T a lo hi mx=>simp only[dI] at h;rw[val _ h] at hu;cases hu
 case len a args sZ hl =>
  simp only[dI,iE,hl] at h;split at h
  ·split at h
   ·simp only[Option.some.injEq] at h;subst h;cases hu
   ·cases h
  ·cases h
 case store T a x =>
  simp only[dI] at h;cases hs:pO P st T (st.ev (.tmp a)) (st.ev x) with
  | none=>simp[hs] at h
  | some u =>
    obtain⟨s',g',e'⟩:=u
    simp only[hs,Option.map_some,Option.some.injEq] at h;subst h;simp only[Option.some.injEq,Prod.mk.injEq] at hu;obtain⟨rfl,rfl,_⟩:=hu
    obtain⟨o1,ho1⟩:=y7 hs
    exact⟨a,by simp,by rw[show st.env a=st.ev (.tmp a) from rfl,ho1];rfl⟩
 case append a b args sZ hl =>
  simp only[dI,iE,hl] at h;cases dst with
  | none=>simp[cD] at h
  | some d =>
    simp only[cD] at h;split at h
    ·rename_i s0 x0 T T' heq _
     simp only[List.cons.injEq,and_true] at heq;obtain⟨rfl,rfl⟩:=heq
     split at h
     ·split at h
      ·cases nG:kM P st T (st.ev (.tmp a)) (st.ev (.tmp b)) with
       | none=>simp[nG] at h
       | some u =>
       simp only[nG,Option.map_some,Option.some.injEq] at h;subst h;simp only[Option.some.injEq,Prod.mk.injEq] at hu;obtain⟨rfl,rfl,rfl⟩:=hu
       obtain⟨n0,zG⟩:=Xi nG
       exact⟨a,by simp,by rw[show st.env a=st.ev (.tmp a) from rfl,zG];rfl⟩
      split at h
      ·simp only[Option.some.injEq] at h;subst h;cases hu
      cases nG:dC P st T (st.ev (.tmp a)) (st.ev (.tmp b)) with
      | none=>simp[nG] at h
      | some ur =>
        obtain⟨u,r⟩:=ur
        simp only[nG,Option.some.injEq] at h;subst h;cases u with
        | none=>cases hu
        | some p =>
          simp only[Option.map_some,Option.some.injEq,Prod.mk.injEq] at hu;obtain⟨rfl,rfl,_⟩:=hu
          exact⟨a,by simp,by rw[show st.env a=st.ev (.tmp a) from rfl,TX nG];rfl⟩
     ·cases h
    ·cases h
 case mv g' a r args sZ hl hg =>
  simp only[dI,iE,nM] at h;rw[if_pos hg] at h;obtain⟨_,_,h3⟩:=Nw h
  have:=h3 s g z hu
  rw[hl] at this;simp only[List.map_cons,List.head?_cons,Option.some.injEq,St.ev] at this;exact⟨a,by simp,by rw[this];rfl⟩
theorem mem_congr {o:Oper} {aS:List Nat} (ha:gS o=some aS) (Zt:∀p∈o.op.operands,st'.ev p=st.ev p) (hh:∀a∈aS,Hf st st' (st.env a)) (hc:∀d,o.dst=some d→st'.aQ d=st.aQ d) :
 rL P call ops o st'=rL P call ops o st:=by
 rw[GU ha,GU ha];have hk:=Nx ha
 clear ha
 obtain⟨dst,op,type,pos,after,guard⟩:=o
 simp only at hk Zt hc
 cases hk
 case load T a =>
  have h1:st'.env a=st.env a:=Zt (.tmp a) (by simp[Op.operands])
  simp only[dI,iS,St.ev,h1,TS (hh a (by simp))]
 case store T a x =>
  have h1:st'.env a=st.env a:=Zt (.tmp a) (by simp[Op.operands])
  have h2:=Zt x (by simp[Op.operands])
  have h3:st'.ev (.tmp a)=st.ev (.tmp a):=h1
  simp only[dI,h2,h3];rw[show st.ev (.tmp a)=st.env a from rfl,TT (hh a (by simp))]
 case indexAddr T a x =>
  have h1:st'.env a=st.env a:=Zt (.tmp a) (by simp[Op.operands])
  have h2:=Zt x (by simp[Op.operands])
  have h3:st'.ev (.tmp a)=st.ev (.tmp a):=h1
  simp only[dI,iS,h2,h3];rw[show st.ev (.tmp a)=st.env a from rfl,Xj (hh a (by simp))]
 case slice T a lo hi mx =>
  have h1:st'.env a=st.env a:=Zt (.tmp a) (by simp[Op.operands])
  have h3:st'.ev (.tmp a)=st.ev (.tmp a):=h1
  have hl:∀p,lo=some p→st'.ev p=st.ev p:=fun p hp=>Zt p (by subst hp;simp[Op.operands])
  have Ce:∀p,hi=some p→st'.ev p=st.ev p:=fun p hp=>Zt p (by subst hp;simp[Op.operands])
  have hm:∀p,mx=some p→st'.ev p=st.ev p:=fun p hp=>Zt p (by subst hp;simp[Op.operands])
  have hS:=TU (P:=P) (T:=T) (hh a (by simp)) hl Ce
  cases mx with
  | none =>
    simp only[dI,iS,h3];rw[show st.ev (.tmp a)=st.env a from rfl,hS]
  | some m =>
    cases hi with
    | none=>rfl
    | some h =>
      simp only[dI,iS,h3];rw[Si (fun s g hx=>hh a (by simp) s g (by rw[show st.env a=st.ev (.tmp a) from rfl,hx];rfl)) hl (Ce h rfl) (hm m rfl)]
 case len a args sZ hl =>
  have h1:st'.env a=st.env a:=Zt (.tmp a) (by simp[Op.operands,Call.operands,← Array.mem_toList_iff,hl])
  have h3:st'.ev (.tmp a)=st.ev (.tmp a):=h1
  have hv:aR st' (st'.ev (.tmp a))=aR st (st.ev (.tmp a)):=by rw[h3];exact vS (hh a (by simp))
  simp only[dI,iE,hl];cases sZ.toList with
  | nil=>rfl
  | cons T r=>cases r with
    | nil=>simp only[hv]
    | cons _ _=>rfl
 case append a b args sZ hl =>
  have h1:st'.ev (.tmp a)=st.ev (.tmp a):=Zt (.tmp a) (by simp[Op.operands,Call.operands,← Array.mem_toList_iff,hl])
  have h2:st'.ev (.tmp b)=st.ev (.tmp b):=Zt (.tmp b) (by simp[Op.operands,Call.operands,← Array.mem_toList_iff,hl])
  have hV:∀T,kM P st' T (st.ev (.tmp a)) (st.ev (.tmp b))=kM P st T (st.ev (.tmp a)) (st.ev (.tmp b)):=fun T=>ND (hh a (by simp)) (hh b (by simp))
  have hA:∀T,dC P st' T (st.ev (.tmp a)) (st.ev (.tmp b))=dC P st T (st.ev (.tmp a)) (st.ev (.tmp b)):=fun T=>NC (hh a (by simp)) (hh b (by simp))
  simp only[dI,iE,hl];cases dst with
  | none=>rfl
  | some d =>
    simp only[cD,hc d rfl];cases sZ.toList with
    | nil=>rfl
    | cons T r=>cases r with
      | nil=>rfl
      | cons T' r'=>cases r' with
        | nil =>
          have hn:Gd P st' T (st'.ev (.tmp a)) (st'.ev (.tmp b))=Gd P st T (st.ev (.tmp a)) (st.ev (.tmp b)):=by
           have h3:aR st' (st.ev (.tmp b))=aR st (st.ev (.tmp b)):=vS (hh b (by simp))
           simp only[Gd,h1,h2,h3]
          simp only[];rw[hn,h1,h2,hA,hV]
        | cons _ _=>rfl
 case mv g' a r args sZ hl hg =>
  have he:∀p∈args.toList,st'.ev p=st.ev p:=fun p hp=>Zt p (by simp[Op.operands,Call.operands,← Array.mem_toList_iff,hp])
  have h1:args.toList.map st'.ev=args.toList.map st.ev:=List.map_congr_left he
  simp only[dI,iE,nM];rw[if_pos hg,if_pos hg,h1,hl];simp only[List.map_cons];exact TW (hh a (by simp)) hc
theorem R6 {x y:AV} (h:fU x y∨fU y x) {k k':Nat × Nat} (hx:keyOf x=some (some k)) (hy:keyOf y=some (some k')):k≠k':=by
 unfold fU at h;rw[hx,hy] at h;rcases h with h|h
 ·exact h
 ·exact fun e=>h e.symm
theorem R7 {aQ:Nat→Nat} {x:AV} {s g:Nat} (h:mK aQ x) (hk:keyOf x=some (some (s,g))):g<aQ s:=by
 cases x<;>simp only[keyOf,Option.some.injEq,Prod.mk.injEq,reduceCtorEq] at hk
 ·obtain⟨rfl,rfl⟩:=hk;exact h.ptr
 ·obtain⟨rfl,rfl⟩:=hk;exact h.own
 ·obtain⟨rfl,rfl⟩:=hk;exact h.vw
theorem DW {x y:Oper} {aS bs:List Nat} {ex:qT} (Kv:∀t,mK st.aQ (st.env t)) (hax:gS x=some aS) (hay:gS y=some bs) (XS:∀d,x.dst=some d→d ∉ y.looksAt ops) (lD:∀d,x.dst=some d→y.dst≠some d)
 (hf:∀a∈aS,∀b∈bs,fU (st.env a) (st.env b)∨fU (st.env b) (st.env a)) (hx:rL P call ops x st=some ex):rL P call ops y (ex.apply st)=rL P call ops y st:=by
 obtain⟨sd,sn,_⟩:=oQ hx
 have su:=Qq hax hx
 refine mem_congr hay (fun p hp=>?_) (fun b hb s g hk=>?_) fun d hd=>?_
 ·cases p with
  | tmp t =>
    show (ex.apply st).env t=st.env t
    rw[oG,if_neg];intro h;rw[sd] at h;exact XS t h (by unfold Oper.looksAt;exact List.mem_append_left _ (List.mem_filterMap.2 ⟨.tmp t,by simpa using hp,rfl⟩))
  | _=>rfl
 ·have bB:=R7 (Kv b) hk
  have hupd:(match ex.dJ with|some (s0,g0,y)=>if s=s0∧g=g0 then y else st.heap s g|none=>st.heap s g)=st.heap s g:=by
   cases hu:ex.dJ with
   | none=>rfl
   | some u =>
     obtain⟨s0,g0,z⟩:=u
     obtain⟨a,ha,hka⟩:=su s0 g0 z hu
     simp only
     rw[if_neg];rintro⟨rfl,rfl⟩
     exact R6 (hf a ha b hb) hka hk rfl
  rw[sN];split
  ·rename_i d es hn;rw[if_neg (by rintro⟨rfl,h,_⟩;omega)]
   exact hupd
  ·exact hupd
 ·rw[lG];split
  ·rename_i d' z hn
   rw[if_neg];rintro rfl
   exact lD _ (sn _ _ hn) hd
  ·rfl
theorem R9 {α:Type} {A B C D:Prop} [Decidable A] [Decidable B] [Decidable C] [Decidable D] {na nb uc ud h:α} (h1:A→¬B) (h2:A→¬D) (h3:C→¬B) (h4:C→¬D) :
 (if B then nb else if D then ud else if A then na else if C then uc else h)=(if A then na else if C then uc else if B then nb else if D then ud else h):=by
 by_cases a:A
 ·rw[if_neg (h1 a),if_neg (h2 a),if_pos a,if_pos a]
 ·rw[if_neg a,if_neg a];by_cases c:C
  ·rw[if_neg (h3 c),if_neg (h4 c),if_pos c,if_pos c]
  ·rw[if_neg c,if_neg c]
def Qr (e:qT) (aQ:Nat→Nat) (s g:Nat):Prop:=∃d es,e.new=some (d,es)∧s=d∧aQ d≤g∧g-aQ d<es.length
def TY (e:qT) (s g:Nat):Prop:=∃z,e.dJ=some (s,g,z)
def Hg (e:qT) (aQ:Nat→Nat) (g:Nat):Option nD:=match e.new with|some (d,es)=>es[g-aQ d]? | none=>none
def TZ (e:qT):Option nD:=match e.dJ with|some (_,_,z)=>z|none=>none
theorem Au (e:qT) (st:St) (s g:Nat):(e.apply st).heap s g=if Qr e st.aQ s g then Hg e st.aQ g else if TY e s g then TZ e else st.heap s g:=by
 have hu:(match e.dJ with|some (s0,g0,y)=>if s=s0∧g=g0 then y else st.heap s g|none=>st.heap s g)=if TY e s g then TZ e else st.heap s g:=by
  unfold TY TZ;cases hu:e.dJ with
  | none=>simp
  | some u =>
    obtain⟨s0,g0,z⟩:=u
    simp only
    by_cases h:s=s0∧g=g0
    ·obtain⟨rfl,rfl⟩:=h
     rw[if_pos ⟨rfl,rfl⟩,if_pos ⟨z,rfl⟩]
    ·rw[if_neg h,if_neg];rintro⟨z',h'⟩
     simp only[Option.some.injEq,Prod.mk.injEq] at h'
     exact h ⟨h'.1.symm,h'.2.1.symm⟩
 rw[sN];unfold Qr Hg;cases hn:e.new with
 | none=>simp only;rw[if_neg (by rintro⟨d,es,h,_⟩;cases h)];exact hu
 | some p =>
   obtain⟨d,es⟩:=p
   simp only
   by_cases h:s=d∧st.aQ d≤g∧g-st.aQ d<es.length
   ·rw[if_pos h,if_pos ⟨d,es,rfl,h⟩]
   ·rw[if_neg h,if_neg]
    ·exact hu
    ·rintro⟨d',es',h',h2⟩
     simp only[Option.some.injEq,Prod.mk.injEq] at h'
     obtain⟨rfl,rfl⟩:=h'
     exact h h2
theorem S3 {x y:Oper} {aS bs:List Nat} (Kv:∀t,mK st.aQ (st.env t)) (hax:gS x=some aS) (hay:gS y=some bs) (nG:Oper.apart ops x y=true) (hf:Kg st aS bs) {s1 s2:St} (hx:bZ P call ops x st=some s1) (hy:bZ P call ops y s1=some s2) :
 ∃s3,bZ P call ops y st=some s3∧bZ P call ops x s3=some s2:=by
 obtain⟨l1,l2,l3⟩:=Oper.apart_spec nG
 have l2':∀d,y.dst=some d→x.dst≠some d:=fun d hd hx=>l2 d hx hd
 rw[El] at hx hy;cases hex:rL P call ops x st with
 | none=>simp[hex] at hx
 | some ex =>
   simp only[hex,Option.map_some,Option.some.injEq] at hx;subst hx;rw[DW Kv hax hay l1 l2 (fun a ha b hb=>.inl (hf a ha b hb)) hex] at hy
   cases XT:rL P call ops y st with
   | none=>simp[XT] at hy
   | some ey =>
     simp only[XT,Option.map_some,Option.some.injEq] at hy;subst hy;refine⟨ey.apply st,by rw[El,XT];rfl, ?_⟩
     rw[El,DW Kv hay hax l3 l2' (fun b hb a ha=>.inr (hf a ha b hb)) XT,hex]
     simp only[Option.map_some,Option.some.injEq];obtain⟨dx,nx,_⟩:=oQ hex
     obtain⟨dy,ny,_⟩:=oQ XT
     have ux:=Qq hax hex
     have uy:=Qq hay XT
     have cx:∀d z,ey.new=some (d,z)→(ex.apply st).aQ d=st.aQ d:=fun d z hn=>by
      rw[lG];split
      ·rename_i d' z' Iw
       rw[if_neg];rintro rfl
       exact l2 _ (nx _ _ Iw) (ny _ _ hn)
      ·rfl
     have cy:∀d z,ex.new=some (d,z)→(ey.apply st).aQ d=st.aQ d:=fun d z hn=>by
      rw[lG];split
      ·rename_i d' z' Iw
       rw[if_neg];rintro rfl
       exact l2 _ (nx _ _ hn) (ny _ _ Iw)
      ·rfl
     apply R4
     ·funext t
      rw[oG,oG,oG,oG,dx,dy];by_cases h1:x.dst=some t
      ·rw[if_pos h1,if_pos h1,if_neg (l2 t h1)]
      ·rw[if_neg h1,if_neg h1]
     ·funext s g
      have nyE:Qr ey (ex.apply st).aQ s g↔Qr ey st.aQ s g:=by
       constructor
       ·rintro⟨d,es,h,h2⟩;rw[cx d es h] at h2;exact⟨d,es,h,h2⟩
       ·rintro⟨d,es,h,h2⟩;rw[← cx d es h] at h2;exact⟨d,es,h,h2⟩
      have nxE:Qr ex (ey.apply st).aQ s g↔Qr ex st.aQ s g:=by
       constructor
       ·rintro⟨d,es,h,h2⟩;rw[cy d es h] at h2;exact⟨d,es,h,h2⟩
       ·rintro⟨d,es,h,h2⟩;rw[← cy d es h] at h2;exact⟨d,es,h,h2⟩
      have vyE:Hg ey (ex.apply st).aQ g=Hg ey st.aQ g:=by
       unfold Hg;cases hn:ey.new with
       | none=>rfl
       | some p=>simp only[cx p.1 p.2 hn]
      have vxE:Hg ex (ey.apply st).aQ g=Hg ex st.aQ g:=by
       unfold Hg;cases hn:ex.new with
       | none=>rfl
       | some p=>simp only[cy p.1 p.2 hn]
      rw[Au,Au,Au,Au];simp only[nyE,nxE,vyE,vxE];symm
      have idk:∀a s g,keyOf (st.env a)=some (some (s,g))→g<st.aQ s:=fun a s g h=>R7 (Kv a) h
      refine R9 ?_ ?_ ?_ ?_
      ·rintro⟨d,es,h,rfl,_⟩ ⟨d',es',h',rfl,_⟩
       exact l2 _ (nx _ _ h) (ny _ _ h')
      ·rintro⟨d,es,h,rfl,h1,_⟩ ⟨z,h'⟩
       obtain⟨b,_,hb⟩:=uy _ _ _ h'
       have:=idk b _ _ hb
       omega
      ·rintro⟨z,h⟩ ⟨d,es,h',rfl,h1,_⟩
       obtain⟨a,_,ha⟩:=ux _ _ _ h
       have:=idk a _ _ ha
       omega
      ·rintro⟨z,h⟩ ⟨z',h'⟩
       obtain⟨a,ha,hka⟩:=ux _ _ _ h
       obtain⟨b,hb,hkb⟩:=uy _ _ _ h'
       exact R6 (.inl (hf a ha b hb)) hka hkb rfl
     ·funext s
      rw[lG,lG];cases v9:ex.new with
      | none=>cases QW:ey.new<;>simp only[lG,v9,QW]
      | some a =>
        obtain⟨d,z⟩:=a
        cases QW:ey.new with
        | none=>simp only[lG,v9,QW]
        | some b =>
          obtain⟨d',z'⟩:=b
          have w8:d≠d':=by
           rintro rfl
           exact l2 _ (nx _ _ v9) (ny _ _ QW)
          simp only[lG,v9,QW];rw[if_neg w8,if_neg (Ne.symm w8)];by_cases h1:s=d
          ·subst h1;rw[if_neg w8,if_pos rfl,if_neg w8]
          ·rw[if_neg h1,if_neg h1]
end
end Go.Ab
end
