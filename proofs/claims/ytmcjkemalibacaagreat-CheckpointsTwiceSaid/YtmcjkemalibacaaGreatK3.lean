/-
  Part 3 of the proof: an evaluator of programs, its soundness, and what functions of this program compute.
-/
import Derived.Test.YtmcjkemalibacaaGreatK2
import Derived.Deep.Upon
set_option linter.all false
set_option maxRecDepth 20000
set_option maxHeartbeats 40000000
section
namespace Go.Ab
open Classical
section
variable {P:Program} {h0:Nat→Obj→Prop} {w0:World} {F:Gw} {nt:Nat} {ρ:Nat→Nat→Value} {st:St} {a:Act} {w:World} {K:Act→World→Prop} {Q:Exit→Act→World→Prop}
theorem Gm {base T ty e:Nat} {ei:TypeInfo} {ez:Value} (hT:P.underlying T=some (.slice e)) (Ct:P.info? e=some ei) (DQ:ei.zero=some ez) (DK:ez.cells.size=ei.size) (Bf:0<ei.size)
 (xP:base≤w.heap.size) {v:Value} {n:Nat} {xs:List Value} (At:oD w base e ei.size v n xs)
 {p:Option Addr} {m c:Nat} {news:List Value} (hl:news.length=m * ei.size) (aAC:news≠[]→∃ad,p=some ad∧∀(j:Nat) (u:Value),news[j]? = some u→w.cell? (ad.add j)=some u)
 (h1:∀u∈news,u.oneCell'=true) (h63:n+m≤maxLen) (hb:(n+m) * ei.bytes≤140737488355328) :
 ∃v' w',(Builtin.append_ #[T,T] ty #[v,.slice p m c]).run P w=.ok v' w'∧oD w' base e ei.size v' (n+m) (xs++news)∧w.grownBy w' (dI v)∧(∀b,dI v'=some b→dI v=some b∨w.heap.size≤b):=by
 by_cases hm:m=0
 ·subst hm;have hn:news=[]:=List.eq_nil_of_length_eq_zero (by simpa using hl)
  subst hn;refine⟨v,w, ?_,by simpa using At,⟨rfl,rfl,rfl,Nat.le_refl _,fun _ _ _=>rfl⟩,fun b hb=>.inl hb⟩
  have hfc:∀(x:Value),(∃p,x=.slice p 0 c)→(Builtin.firstCells ei.size 0 x).run P w=.ok #[] w:=by
   rintro x ⟨p,rfl⟩
   cases p<;>simp[Builtin.firstCells,loadCells,loadCellsFrom]
  rcases At.2 with ⟨q,rfl,rfl⟩|⟨g,cap,cur,rfl,_,_,Wu,_⟩
  ·cases q<;>simp[Builtin.append_,bC hT,run_sizeOf w Ct,Builtin.lenOf,hfc _ ⟨p,rfl⟩,storeCells]
  ·simp[Builtin.append_,bC hT,run_sizeOf w Ct,Builtin.lenOf,hfc _ ⟨p,rfl⟩,Wu,storeCells]
 ·have fQ:news≠[]:=by
   intro h;subst h;have:0<m * ei.size:=Nat.mul_pos (by omega) Bf
   simp at hl
   omega
  obtain⟨ad,rfl,AZ⟩:=aAC fQ
  have hlen:(xs++news).length=(n+m) * ei.size:=by rw[List.length_append,At.1,hl,Nat.add_mul]
  have grow:∀(ga:Addr) (cap:Nat),cap<n+m→(∀(j:Nat) (u:Value),xs[j]? = some u→w.cell? (ga.add j)=some u)→∃v' w',(Builtin.append_ #[T,T] ty #[.slice (some ga) n cap,.slice (some ad) m c]).run P w=.ok v' w' ∧
   oD w' base e ei.size v' (n+m) (xs++news)∧w.grownBy w' none∧∀b,dI v'=some b→w.heap.size≤b:=by
   intro ga cap B0 holds;have hr:=run_append_grow (P:=P) w T ty e ei ez hT Ct DQ ga n cap xs At.1 holds ad m c news hl AZ (by omega) (by simp only[maxLen] at h63;omega) (growslice_fits (by omega) hb)
   have hge:=grownCap_ge w (n+m) cap e
   have aHm:=grownCap_le_maxLen w (n+m) cap e h63
   refine⟨_,_,hr,⟨hlen,.inr ⟨w.heap.size,_,_,rfl,xP,heap_alloc_new w.drew _,hge,aHm, ?_, ?_,by omega⟩⟩,⟨rfl,rfl,rfl,by simp,fun k hk _=>heap_alloc_old w.drew _ hk⟩,fun b hb=>?_⟩
   ·simp only[Array.size_append,List.size_toArray,size_zeroCells,DK,At.1,hl,← Nat.add_mul];congr 1
    omega
   ·simp only[Array.toList_append,List.append_assoc];rw[← List.append_assoc,← hlen];exact List.take_left
   ·rw[kI (by omega)] at hb
    simp at hb
    omega
  rcases At.2 with ⟨q,rfl,rfl⟩|⟨g,cap,cur,rfl,hbg,hg,Wu,J3,KF,htake,qP⟩
  ·have hx:xs=[]:=List.eq_nil_of_length_eq_zero (by simpa using At.1)
   cases q with
   | none =>
     subst hx;obtain⟨v',w',hr,ho,hgr,_⟩:=run_append_own (P:=P) w w.heap.size T ty e ei ez ei.size ei.bytes hT Ct DQ rfl rfl DK Bf (.slice none 0 0) 0 [] (World.ownsRow_nil w _ e ei.size)
      ad m c news hl AZ h1 (by simpa using h63) (by simpa using hb) (Nat.le_refl _)
     exact⟨v',w',hr,zX (Hz ho) xP,hgr,fun b hb=>.inr ((Dp (Hz ho) b hb).1)⟩
   | some ga =>
     obtain⟨v',w',hr,ho,hgr,oB⟩:=grow ga 0 (by omega) (by rw[hx];simp)
     exact⟨v',w',hr,ho,by rw[pV];exact hgr,fun b hb=>.inr (oB b hb)⟩
  ·by_cases B0:n+m≤cap
   ·have aDA:n * ei.size+news.length≤cur.size:=by rw[hl,KF,← Nat.add_mul];exact Nat.mul_le_mul_right _ B0
    have hr:=run_append_room (P:=P) w T ty e ei hT Ct g n cap cur hg ad m c news hl AZ h1 B0 aDA
    refine⟨_,_,hr,⟨hlen,.inr ⟨g,cap,_,rfl,hbg,setRow_heap w g cur _ e _ hg,B0,J3, ?_, ?_,qP⟩⟩,⟨rfl,rfl,rfl,by simp,fun k _ hk=>setRow_other w g k _ (fun e=>hk (by rw[kI qP,e]))⟩,fun b hb=>.inl (by rw[kI qP] at hb ⊢;exact hb)⟩
    ·simp only[List.size_toArray,List.length_append,List.length_take,List.length_drop,Array.length_toList];omega
    ·rw[htake,← hlen];exact List.take_left
   ·have holds:∀(j:Nat) (u:Value),xs[j]? = some u→w.cell? ((⟨g,0,none⟩:Addr).add j)=some u:=fun j u hu=>by
     rw[lU,Nat.zero_add,cell_of_row w g j cur e (0,0) hg];rw[← htake,List.getElem?_take] at hu;split at hu
     ·simpa using hu
     ·cases hu
    obtain⟨v',w',hr,ho,hgr,oB⟩:=grow ⟨g,0,none⟩ cap (by omega) holds
    exact⟨v',w',hr,ho,⟨hgr.os,hgr.tape,hgr.output,hgr.size,fun k hk _=>hgr.block k hk (by simp)⟩,fun b hb=>.inr (oB b hb)⟩
theorem lL (dst:Option Nat) (v:AV) (d:Nat) (x:nP):rX.apply { dst:=dst,val:=v,new:=some (d,[x])} st=(st.new d x).put dst v:=by
 simp only[rX.apply,Yq]
theorem Ud (dst:Option Nat) (v:AV) (s g d:Nat) (z:Option nP) (x:nP):rX.apply { dst:=dst,val:=v,dS:=some (s,g,z),new:=some (d,[x])} st=((st.jC s g z).new d x).put dst v:=by
 simp only[rX.apply,Yq]
theorem KJ (S:kY F h0 w0 nt ρ st a w) {T ty d:Nat} {s x:AV} {u:Option (Nat × Nat)} {r:nP} {sv xv:Value} (hd:d<nt) (h:dH P st T s x=some (u,r))
 (hs:cY (ctx h0 w0 ρ st w) s sv) (hx:cY (ctx h0 w0 ρ st w) x xv) :
 ∃v w' oC,(Builtin.append_ #[T,T] ty #[sv,xv]).run P w=.ok v w' ∧
  kY F h0 w0 nt oC (rX.apply { dst:=some d,val:=.own d (st.aU d),dS:=u.map fun p=>(p.1,p.2,none),new:=some (d,[r])} st) (a.put (some d) v) w':=by
 unfold dH at h;cases VA:dT P T with
 | none=>simp[VA] at h
 | some t =>
   obtain⟨e,sz,by_⟩:=t
   simp only[VA] at h;obtain⟨ei,ez,hT,Ct,DQ,rfl,DK,rfl,Bf⟩:=kF VA
   cases hv:aX st x with
   | none=>simp[hv] at h
   | some mn =>
     obtain⟨m,news⟩:=mn
     simp only[hv] at h;split at h
     ·rename_i hlen;obtain⟨p,c,rfl,aAC⟩:=sS S hv hx
      have aAD:∃nv:List Value,gD (ctx h0 w0 ρ st w) news nv∧(nv≠[]→∃ad,p=some ad∧∀(j:Nat) (u:Value),nv[j]? = some u→w.cell? (ad.add j)=some u):=by
       by_cases fQ:news=[]
       ·subst fQ;exact⟨[],.nil _,fun h=>absurd rfl h⟩
       ·obtain⟨b,off,arr,T',fr,hp,hb,hc⟩:=aAC fQ
        refine⟨_,hc,fun _=>⟨_,hp,fun j u hu=>?_⟩⟩
        rw[lU,cell_of_row w b (off+j) arr T' fr hb];rw[List.getElem?_take] at hu;split at hu
        ·rw[List.getElem?_drop] at hu;simpa using hu
        ·cases hu
      obtain⟨nv,Wu,oU⟩:=aAD
      have UY:nv.length=m * ei.size:=by rw[← Wu.len,hlen]
      have Su:∀u∈nv,u.oneCell'=true:=fun u hu=>by
       obtain⟨j,hj,rfl⟩:=List.getElem_of_mem hu
       exact Wu.one j _ (by simp)
      split at h
      ·split at h
       ·rename_i hc;simp only[Option.some.injEq,Prod.mk.injEq] at h;obtain⟨rfl,rfl⟩:=h
        have:=iK hs
        subst this;obtain⟨v',w',hr,ho,hg,p5⟩:=Gm (P:=P) (w:=w) (base:=w.heap.size) (ty:=ty) hT Ct DQ DK Bf (Nat.le_refl _) (Hz (World.ownsRow_nil w _ e ei.size)) (p:=p) (c:=c) UY oU Su (by simpa using hc.2) (by simpa using hc.1)
        simp only[Nat.zero_add,List.nil_append] at ho;obtain⟨oC,S'⟩:=S.newRow d hd hg e ei.size m news nv v' ho Wu
        exact⟨v',w',oC,hr,by rw[Option.map_none,lL];exact S'⟩
       ·cases h
      ·rename_i s' g'
       cases he:st.heap s' g' with
       | none=>simp[he] at h
       | some e' =>
         cases e' with
         | row e2 sz2 n cs =>
           simp only[he] at h;split at h
           ·rename_i hc;obtain⟨rfl,rfl,hb,h63⟩:=hc
            simp only[Option.some.injEq,Prod.mk.injEq] at h;obtain⟨rfl,rfl⟩:=h
            obtain⟨_,_,xs,ho,KF⟩:=S.sR s' g' _ he
            cases hs with
            | own _ _ hg1 ho1 =>
              obtain⟨v',w',hr,ho',hg,p5⟩:=Gm (P:=P) (w:=w) (ty:=ty) hT Ct DQ DK Bf S.ext.size ho (p:=p) (c:=c) UY oU Su h63 hb
              obtain⟨S',k,pA⟩:=S.R7 he hg d (.row e2 ei.size (n+m) (cs++news)) v' (tI ho') p5 (fun C k=>⟨xs++nv,ho',(KF.app Wu).le k⟩)
              have bA:st.aU d<(ctx h0 w0 (uD ρ d (st.aU d) v') ((st.jC s' g' none).new d (.row e2 ei.size (n+m) (cs++news))) w').aU d:=by simp[ctx,St.new,St.jC]
              have lD:(ctx h0 w0 (uD ρ d (st.aU d) v') ((st.jC s' g' none).new d (.row e2 ei.size (n+m) (cs++news))) w').ρ d (st.aU d)=v':=pA
              have:=cY.own (C:=ctx h0 w0 (uD ρ d (st.aU d) v') ((st.jC s' g' none).new d (.row e2 ei.size (n+m) (cs++news))) w') d (st.aU d) bA (by rw[lD];exact tI ho')
              rw[lD] at this;have hS:=S'.put (some d) (fun t ht=>by cases ht;exact hd) this
              exact⟨v',w',_,hr,by rw[Option.map_some,Ud];exact hS⟩
           ·cases h
         | _=>simp[he] at h
      ·rename_i n cs;split at h
       ·rename_i hc;obtain⟨c1,c2,c3,c4⟩:=hc
        simp only[Option.some.injEq,Prod.mk.injEq] at h;obtain⟨rfl,rfl⟩:=h
        have main:∀(q:Option Addr) (ys:List Value),sv=.slice q n n→gD (ctx h0 w0 ρ st w) cs ys→(ys≠[]→∃ad,q=some ad∧∀(j:Nat) (u:Value),ys[j]? = some u→w.cell? (ad.add j)=some u) →
         ∃v' w',(Builtin.append_ #[T,T] ty #[sv,.slice p m c]).run P w=.ok v' w'∧oD w' w.heap.size e ei.size v' (n+m) (ys++nv)∧w.grownBy w' none:=by
         rintro q ys rfl Wv hcell'
         have hyl:ys.length=n * ei.size:=by rw[← Wv.len,c1]
         by_cases hm:m=0
         ·have hn0:n=0:=by omega
          subst hm;subst hn0;have hy0:ys=[]:=List.eq_nil_of_length_eq_zero (by simpa using hyl)
          have hn0:nv=[]:=List.eq_nil_of_length_eq_zero (by simpa using UY)
          subst hy0;subst hn0;obtain⟨v',w',hr,ho,hg,_⟩:=Gm (P:=P) (w:=w) (base:=w.heap.size) (ty:=ty) (v:=.slice q 0 0) (n:=0) (xs:=[]) hT Ct DQ DK Bf (Nat.le_refl _) ⟨by simp,.inl ⟨q,rfl,rfl⟩⟩ (p:=p) (c:=c) UY oU (by simp) c4 c3
          rw[pV] at hg;exact⟨v',w',hr,ho,hg⟩
         ·have fQ:nv≠[]:=by
           intro h;rw[h] at UY;have:0<m * ei.size:=Nat.mul_pos (by omega) Bf
           simp at UY
           omega
          obtain⟨ad,rfl,AZ⟩:=oU fQ
          have hlen':(ys++nv).length=(n+m) * ei.size:=by rw[List.length_append,hyl,UY,Nat.add_mul]
          cases q with
          | none =>
            have hy0:ys=[]:=by
             by_cases h:ys=[]
             ·exact h
             ·obtain⟨ad,h1,_⟩:=hcell' h
              cases h1
            subst hy0;have hn0:n=0:=by
             rcases Nat.eq_zero_or_pos n with h|h
             ·exact h
             ·have:=Nat.mul_pos h Bf
              simp at hyl
              omega
            subst hn0;obtain⟨v',w',hr,ho,hg,_⟩:=Gm (P:=P) (w:=w) (base:=w.heap.size) (ty:=ty) (v:=.slice none 0 0) (n:=0) (xs:=[]) hT Ct DQ DK Bf (Nat.le_refl _) ⟨by simp,.inl ⟨none,rfl,rfl⟩⟩ (p:=some ad) (c:=c) UY oU Su c4 c3
            rw[pV] at hg;exact⟨v',w',hr,ho,hg⟩
          | some ga =>
            have holds:∀(j:Nat) (u:Value),ys[j]? = some u→w.cell? (ga.add j)=some u:=fun j u hu=>by
             have hne':ys≠[]:=by intro h;rw[h] at hu;simp at hu
             obtain⟨ad',h1,h2⟩:=hcell' hne'
             cases h1
             exact h2 j u hu
            have hr:=run_append_grow (P:=P) w T ty e ei ez hT Ct DQ ga n n ys hyl holds ad m c nv UY AZ (by omega) (by simp only[maxLen] at c4;omega) (growslice_fits (by omega) c3)
            have hge:=grownCap_ge w (n+m) n e
            have aHm:=grownCap_le_maxLen w (n+m) n e c4
            refine⟨_,_,hr,⟨hlen',.inr ⟨w.heap.size,_,_,rfl,Nat.le_refl _,heap_alloc_new w.drew _,hge,aHm, ?_, ?_,by omega⟩⟩,⟨rfl,rfl,rfl,by simp,fun k hk _=>heap_alloc_old w.drew _ hk⟩⟩
            ·simp only[Array.size_append,List.size_toArray,size_zeroCells,DK,hyl,UY,← Nat.add_mul];congr 1
             omega
            ·simp only[Array.toList_append,List.append_assoc];rw[← List.append_assoc,← hlen'];exact List.take_left
        have fin:∀(ys:List Value),gD (ctx h0 w0 ρ st w) cs ys→(∃v' w',(Builtin.append_ #[T,T] ty #[sv,.slice p m c]).run P w=.ok v' w'∧oD w' w.heap.size e ei.size v' (n+m) (ys++nv)∧w.grownBy w' none) →
         ∃v w' oC,(Builtin.append_ #[T,T] ty #[sv,.slice p m c]).run P w=.ok v w' ∧
          kY F h0 w0 nt oC (rX.apply { dst:=some d,val:=.own d (st.aU d),dS:=(none:Option (Nat × Nat)).map fun p=>(p.1,p.2,none),new:=some (d,[.row e ei.size (n+m) (cs++news)])} st) (a.put (some d) v) w':=by
         rintro ys Wv ⟨v',w',hr,ho,hg⟩
         obtain⟨oC,S'⟩:=S.newRow d hd hg e ei.size (n+m) (cs++news) (ys++nv) v' ho (Wv.app Wu)
         exact⟨v',w',oC,hr,by rw[Option.map_none,lL];exact S'⟩
        cases hs with
        | cl0 n q=>exact fin [] (.nil _) (main q [] rfl (.nil _) (by simp))
        | cl n cs b off arr T' fr hb hle hr GG =>
          have Ac:gD (ctx h0 w0 ρ st w) cs ((arr.toList.drop off).take cs.length):=by
           refine⟨by simp;omega,fun i x y hx hy=>?_,fun i y hy=>?_⟩
           ·have hi:=(List.getElem?_eq_some_iff.1 hx).1
            rw[List.getElem?_take,if_pos hi,List.getElem?_drop] at hy;exact hr i x y hx (by simpa using hy)
           ·rw[List.getElem?_take] at hy;split at hy
            ·rename_i hi;rw[List.getElem?_drop] at hy;exact GG i y hi (by simpa using hy)
            ·cases hy
          refine fin _ Ac (main _ _ rfl Ac fun _=>⟨⟨b,off,none⟩,rfl,fun j u hu=>?_⟩)
          rw[lU,cell_of_row w b (off+j) arr T' fr hb.1];rw[List.getElem?_take] at hu;split at hu
          ·rw[List.getElem?_drop] at hu;simpa using hu
          ·cases hu
       ·cases h
      ·cases h
     ·cases h
theorem EE (S:kY F h0 w0 nt ρ st a w) {T ty:Nat} {s x:AV} {u:Nat × Nat × nP × Nat} {sv xv:Value} (h:nX P st T s x=some u)
 (hs:cY (ctx h0 w0 ρ st w) s sv) (hx:cY (ctx h0 w0 ρ st w) x xv) :
 ∃v w',(Builtin.append_ #[T,T] ty #[sv,xv]).run P w=.ok v w'∧kY F h0 w0 nt ρ (st.jC u.1 u.2.1 (some u.2.2.1)) a w' ∧
  cY (ctx h0 w0 ρ (st.jC u.1 u.2.1 (some u.2.2.1)) w') (.vw u.1 u.2.1 0 u.2.2.2) v:=by
 unfold nX at h;split at h
 ·rename_i e sz by_ m news s' g' k VA hv
  obtain⟨ei,ez,hT,Ct,DQ,rfl,DK,rfl,Bf⟩:=kF VA
  cases he:st.heap s' g' with
  | none=>simp[he] at h
  | some en =>
    cases en with
    | row e' tU n cs =>
      simp only[he] at h;split at h
      ·rename_i hc;obtain⟨rfl,rfl,hlen,aDA⟩:=hc
       simp only[Option.some.injEq] at h;subst h;obtain⟨p,c,rfl,aAC⟩:=sS S hv hx
       have aAD:∃nv:List Value,gD (ctx h0 w0 ρ st w) news nv∧(nv≠[]→∃ad,p=some ad∧∀(j:Nat) (u:Value),nv[j]? = some u→w.cell? (ad.add j)=some u):=by
        by_cases fQ:news=[]
        ·subst fQ;exact⟨[],.nil _,fun h=>absurd rfl h⟩
        ·obtain⟨b,off,arr,T',fr,hp,hb,hc⟩:=aAC fQ
         refine⟨_,hc,fun _=>⟨_,hp,fun j u hu=>?_⟩⟩
         rw[lU,cell_of_row w b (off+j) arr T' fr hb];rw[List.getElem?_take] at hu;split at hu
         ·rw[List.getElem?_drop] at hu;simpa using hu
         ·cases hu
       obtain⟨nv,Wu,oU⟩:=aAD
       have UY:nv.length=m * ei.size:=by rw[← Wu.len,hlen]
       have Su:∀u∈nv,u.oneCell'=true:=fun u hu=>by
        obtain⟨j,hj,rfl⟩:=List.getElem_of_mem hu
        exact Wu.one j _ (by simp)
       obtain⟨_,_,xs,ho,Ac⟩:=S.sR s' g' _ he
       cases hs with
       | vw _ _ _ _ b cap hg hb mZ zW =>
         have oB:dI (ρ s' g')=some b:=hb
         rcases ho.2 with ⟨q,lD,hn⟩|⟨b',DP,cur,lD,xP,hh,K0,J3,KF,ht,qP⟩
         ·rw[lD,pV] at oB;cases oB
         ·have xX:b'=b:=by rw[lD,kI qP] at oB;simpa using oB
          subst xX;have hcc:cap=DP:=zW rfl _ _ _ lD
          subst hcc;have J1:(k+m) * ei.size≤n * ei.size:=Nat.mul_le_mul_right _ aDA
          have hnn:n * ei.size≤cap * ei.size:=Nat.mul_le_mul_right _ K0
          rw[Nat.add_mul] at J1;have hcl':cur.toList.length=cur.size:=rfl
          have qE:(Builtin.append_ #[T,T] ty #[.slice (some ⟨b',0,none⟩) k cap,.slice p m c]).run P w=.ok (.slice (some ⟨b',0,none⟩) (k+m) cap) (w.setRow b' (cur.toList.take (k * ei.size)++nv++cur.toList.drop (k * ei.size+nv.length)).toArray):=by
           by_cases fQ:nv=[]
           ·have hm:m=0:=by
             rw[fQ] at UY;rcases Nat.eq_zero_or_pos m with h|h
             ·exact h
             ·have:=Nat.mul_pos h Bf
              simp at UY
              omega
            subst hm;have hfc:∀(x:Value),(∃p,x=.slice p 0 c)→(Builtin.firstCells ei.size 0 x).run P w=.ok #[] w:=by
             rintro x ⟨p,rfl⟩
             cases p<;>simp[Builtin.firstCells,loadCells,loadCellsFrom]
            have e0:(cur.toList.take (k * ei.size)++nv++cur.toList.drop (k * ei.size+nv.length)).toArray=cur:=by
             rw[fQ];simp
            rw[e0,setRow_self w b' cur e' (0,0) hh];have hkc:k≤cap:=by omega
            simp[Builtin.append_,bC hT,run_sizeOf w Ct,Builtin.lenOf,hfc _ ⟨p,rfl⟩,storeCells,hkc]
           ·obtain⟨ad,rfl,AZ⟩:=oU fQ
            exact run_append_room (P:=P) w T ty e' ei hT Ct b' k cap cur hh ad m c nv UY AZ Su (by omega) (by omega)
          have hxl:=ho.1
          have hcsl:=Ac.len
          have S':=S.store (e':=.row e' ei.size n (cs.take (k * ei.size)++news++cs.drop (k * ei.size+m * ei.size))) (w':=w.setRow b' (cur.toList.take (k * ei.size)++nv++cur.toList.drop (k * ei.size+nv.length)).toArray) he oB ⟨rfl,rfl,rfl,by simp,fun j _ hj=>setRow_other w b' j _ (fun e=>hj (by rw[e]))⟩ (fun C kC=>by
           refine⟨xs.take (k * ei.size)++nv++xs.drop (k * ei.size+m * ei.size),⟨by simp;omega,.inr ⟨b',cap,_,lD,xP,setRow_heap w b' cur _ e' (0,0) hh,K0,J3,by simp;omega, ?_,qP⟩⟩,(((Ac.take _).app Wu).app (Ac.drop _)).le kC⟩
           simp only
           rw[← ht,UY];have l1:(cur.toList.take (k * ei.size)++nv).length=k * ei.size+m * ei.size:=by simp;omega
           rw[List.take_append,l1,List.take_of_length_le (by omega),List.drop_take,List.take_take,Nat.min_eq_left (by omega)])
          exact⟨_,_,qE,S',.vw s' g' 0 _ b' cap hg hb (by show k+m≤cap;omega) (fun _=>zW rfl)⟩
      ·cases h
    | _=>simp[he] at h
 ·cases h
theorem QU (S:kY F h0 w0 nt ρ st a w) {T ty:Nat} {x:AV} {u:Option (Nat × Nat × nP)} {xv:Value} (h:sE P st T x=some u) (hx:cY (ctx h0 w0 ρ st w) x xv) :
 ∃w',(Builtin.clear_ #[T] ty #[xv]).run P w=.ok (.tuple #[]) w'∧kY F h0 w0 nt ρ (match u with|some p=>st.jC p.1 p.2.1 (some p.2.2)|none=>st) a w':=by
 unfold sE at h;split at h
 ·rename_i e sz by_ s g o k VA _;obtain⟨ei,ez,hT,Ct,DQ,rfl,DK,rfl,Bf⟩:=kF VA
  split at h
  ·rename_i z e' tU n cs hz he
   split at h
   ·rename_i hc;obtain⟨rfl,rfl,aDA⟩:=hc
    simp only[Option.some.injEq] at h;subst h;obtain⟨i',zv,Dr,NN,rfl,S3⟩:=zZ hz
    rw[Ct] at Dr
    cases Dr
    rw[DQ] at NN;cases NN
    obtain⟨_,_,xs,ho,Ac⟩:=S.sR s g _ he
    cases hx with
    | vw _ _ _ _ b cap hg hb mZ zW =>
      have oB:dI (ρ s g)=some b:=hb
      rcases ho.2 with ⟨q,lD,hn⟩|⟨b',DP,cur,lD,xP,hh,K0,J3,KF,ht,qP⟩
      ·rw[lD,pV] at oB;cases oB
      ·have xX:b'=b:=by rw[lD,kI qP] at oB;simpa using oB
       subst xX;have hxl:=ho.1
       have hcsl:=Ac.len
       have hnn:n * ei.size≤DP * ei.size:=Nat.mul_le_mul_right _ K0
       have hcl':cur.toList.length=cur.size:=rfl
       have XT:(Builtin.zeroCells ez.cells k).toList=(List.range k).flatMap fun _=>ez.cells.toList:=by
        unfold Builtin.zeroCells;rw[← Jh]
       have hzl:((List.range k).flatMap fun _=>ez.cells.toList).length=k * ei.size:=by
        rw[← XT,Array.length_toList,size_zeroCells,DK]
       have hz1':∀v∈(List.range k).flatMap fun _=>ez.cells.toList,v.oneCell'=true:=fun v hv=>by
        obtain⟨_,_,hv⟩:=List.mem_flatMap.1 hv
        exact S3 v hv
       have yR:=run_storeCells_at P b' o e' ((List.range k).flatMap fun _=>ez.cells.toList) 0 cur w hh (by rw[hzl];omega) hz1'
       simp only[Nat.add_zero] at yR;have S':=S.store (e':=.row e' ei.size n (cs.take o++((List.range k).flatMap fun _=>ez.cells.toList.map .v)++cs.drop (o+k * ei.size))) (w':=w.setRow b' (cur.toList.take o++((List.range k).flatMap fun _=>ez.cells.toList)++cur.toList.drop (o+((List.range k).flatMap fun _=>ez.cells.toList).length)).toArray) he oB ⟨rfl,rfl,rfl,by simp,fun j _ hj=>setRow_other w b' j _ (fun e=>hj (by rw[e]))⟩ (fun C kC=>by
        refine⟨xs.take o++((List.range k).flatMap fun _=>ez.cells.toList)++xs.drop (o+k * ei.size),⟨by rw[List.length_append,List.length_append,hzl];simp;omega,.inr ⟨b',DP,_,lD,xP,setRow_heap w b' cur _ e' (0,0) hh,K0,J3,by rw[List.size_toArray,List.length_append,List.length_append,hzl];simp;omega, ?_,qP⟩⟩,(((Ac.take _).le kC).app (Ku S3 k)).app ((Ac.drop _).le kC)⟩
        simp only
        rw[← ht,hzl];have l1:(cur.toList.take o++((List.range k).flatMap fun _=>ez.cells.toList)).length=o+k * ei.size:=by rw[List.length_append,hzl];simp;omega
        rw[List.take_append,l1,List.take_of_length_le (by omega),List.drop_take,List.take_take,Nat.min_eq_left (by omega)])
       refine⟨_, ?_,S'⟩
       have hzv:(zeroValue e').run P w=.ok ez w:=by simp[zeroValue,typeInfo,Ct,DQ]
       cases k with
       | zero =>
         have e0:(cur.toList.take o++((List.range 0).flatMap fun _=>ez.cells.toList)++cur.toList.drop (o+((List.range 0).flatMap fun _=>ez.cells.toList).length)).toArray=cur:=by simp
         rw[e0,setRow_self w b' cur e' (0,0) hh];simp[Builtin.clear_,bC hT]
       | succ k =>
         have hst2:(storeCells ⟨b',o,none⟩ (Builtin.zeroCells ez.cells (k+1)).toList).run P w=.ok () (w.setRow b' (cur.toList.take o++((List.range (k+1)).flatMap fun _=>ez.cells.toList)++cur.toList.drop (o+((List.range (k+1)).flatMap fun _=>ez.cells.toList).length)).toArray):=by rw[XT];exact yR
         obtain⟨W,hW⟩:∃W,w.setRow b' (cur.toList.take o++((List.range (k+1)).flatMap fun _=>ez.cells.toList)++cur.toList.drop (o+((List.range (k+1)).flatMap fun _=>ez.cells.toList).length)).toArray=W:=⟨_,rfl⟩
         rw[hW] at hst2;rw[hW];simp[Builtin.clear_,bC hT,hzv,hst2]
   ·cases h
  ·cases h
 ·rename_i t cs VA _;simp only[Option.some.injEq] at h;subst h;obtain⟨e,sz,by_⟩:=t
  obtain⟨ei,ez,hT,_⟩:=kF VA
  refine⟨w, ?_,S⟩
  cases hx with
  | IS n cap p mZ=>cases p<;>simp[Builtin.clear_,bC hT]
  | sl n cs b off cap arr T fr mZ hb hle hr h1=>simp[Builtin.clear_,bC hT]
 ·rename_i t VA _;simp only[Option.some.injEq] at h;subst h;obtain⟨e,sz,by_⟩:=t
  obtain⟨ei,ez,hT,_⟩:=kF VA
  have:=iK hx
  subst this;exact⟨w,by simp[Builtin.clear_,bC hT],S⟩
 ·cases h
theorem XU {C:Ctx} {x:AV} {v:Value} {g:Nat} {mJ:List AV} (h:IN x=some (g,mJ)) (hr:cY C x v):∃cv,v=.func (.func g) #[] cv∧lQ C mJ cv.toList:=by
 unfold IN at h;split at h
 ·split at h
  ·rename_i hc;obtain⟨rfl,rfl⟩:=hc
   simp only[Option.some.injEq,Prod.mk.injEq] at h;obtain⟨rfl,rfl⟩:=h
   have:=iK hr
   subst this;exact⟨#[],rfl,.nil C⟩
  ·cases h
 ·simp only[Option.some.injEq,Prod.mk.injEq] at h;obtain⟨rfl,rfl⟩:=h
  cases hr with
  | rW f cs a hl hr=>exact⟨a,rfl,by simpa using hl,fun i x y hx hy=>hr i x y hx (by simpa using hy)⟩
 ·cases h
variable [Ext]
theorem EF (S:kY F h0 w0 nt ρ st a w) {call:Nat→List AV→Option AV} (kK:rA P call) {o:Oper} {c:Call} (qH:o.op=.call c) {e:rX}
 (h:iS P call c o.dst st=some e) (hd:∀d,o.dst=some d→d<nt)
 (hK:∀oC a' w',kY F h0 w0 nt oC (e.apply st) a' w'→K a' w'):o.wp P a w K Q:=by
 have xR:lQ (ctx h0 w0 ρ st w) (c.args.toList.map st.ev) (c.args.toList.map a.eval):=lQ.map _ _ _ fun p _=>S.ev p
 unfold iS at h;split at h
 ·rename_i f hf;have fin:∀g cv,a.eval f=.func (.func g) #[] cv→(Dd P g∧Calls P g (c.args.map a.eval++cv) w fun en w'=>∃v,en=.returned v∧K (a.put o.dst v) w')→o.wp P a w K Q:=by
   rintro g cv hv ⟨⟨fn,aHn,aAE,aAF⟩,XV⟩
   have hnb:fn.body.isNone=false:=by
    cases hb:fn.body<;>simp[hb] at aAF ⊢
   have Su : ¬ fn.name = "runtime.NumGoroutine" := by simpa using aAE
   have hn2:¬fn.body=none:=by intro h;simp[h] at hnb
   have qE:(execOp a.eval o).run P w=.ok (.enter g (c.args.map a.eval++cv)) w:=by
    simp[execOp,qH,resolve,hf,hv,Deferred.ofValue,invoke,callFunc,aHn,Su,hn2]
   unfold Oper.wp;rw[qE,Oper.upon_enter];refine XV.mono ?_
   rintro en w' ⟨v,rfl,hk⟩
   exact hk
  have gen:∀g mJ,IN (st.ev f)=some (g,mJ)→aO call g (c.args.toList.map st.ev++mJ) st o.dst=some e→o.wp P a w K Q:=by
   intro g mJ hfn h;obtain⟨cv,hv,hcaps⟩:=XU hfn (S.ev f)
   have fU:lQ (ctx h0 w0 ρ st w) (c.args.toList.map st.ev++mJ) (c.args.map a.eval++cv).toList:=by
    simpa using xR.app hcaps
   exact fin g cv hv (Gl S kK h fU hd hK)
  unfold nY at h;split at h
  ·rename_i g;split at h
   ·refine fin g #[] rfl ?_
    exact KH S kK h (by simpa using xR) hd hK
   ·split at h
    ·refine fin g #[] rfl ?_
     exact ED S kK h (by simpa using xR) hd hK
    ·exact gen g [] rfl (by simpa using h)
  ·split at h
   ·rename_i g mJ hfn;exact gen g mJ hfn h
   ·cases h
 ·rename_i hf;split at h
  ·rename_i x T hx hT;cases hs:dT P T with
   | none=>simp[hs] at h
   | some t =>
     cases hv:aX st (st.ev x) with
     | none=>simp[hs,hv] at h
     | some nc =>
       obtain⟨n,cs⟩:=nc
       simp only[hs,hv,Option.some.injEq] at h;subst h;obtain⟨p,cap,aAG,_⟩:=sS S hv (S.ev x)
       obtain⟨e,sz,by_⟩:=t
       obtain⟨ei,ez,hu,_⟩:=kF hs
       have ha:c.args=#[x]:=by apply Array.ext';simpa using hx
       have ht:c.argTypes=#[T]:=by apply Array.ext';simpa using hT
       refine upon_value (v:=.int .i64 n) ?_ (hK ρ _ w (S.put o.dst hd (.v _)))
       simp[execOp,qH,resolve,hf,ha,ht,invoke,builtin,Builtin.len_,aAG,bC hu,goInt]
  ·cases h
 ·rename_i hf;split at h
  ·rename_i x y hx;split at h
   ·rename_i k p k' q h1 h2
    simp only[Option.some.injEq] at h;subst h;have e1:=S.ev x
    rw[h1] at e1;have e1:=iK e1
    have e2:=S.ev y
    rw[h2] at e2;have e2:=iK e2
    have ha:c.args=#[x,y]:=by apply Array.ext';simpa using hx
    refine upon_value (v:=.int k (if q<p then q else p)) ?_ (hK ρ _ w (S.put o.dst hd (.v _)))
    simp[execOp,qH,resolve,hf,ha,invoke,builtin,Builtin.min_,Builtin.min2,e1,e2]
   ·cases h
  ·cases h
 ·rename_i hf;split at h
  ·rename_i x y hx;split at h
   ·rename_i k p k' q h1 h2
    simp only[Option.some.injEq] at h;subst h;have e1:=S.ev x
    rw[h1] at e1;have e1:=iK e1
    have e2:=S.ev y
    rw[h2] at e2;have e2:=iK e2
    have ha:c.args=#[x,y]:=by apply Array.ext';simpa using hx
    refine upon_value (v:=.int k (if q > p then q else p)) ?_ (hK ρ _ w (S.put o.dst hd (.v _)))
    simp[execOp,qH,resolve,hf,ha,invoke,builtin,Builtin.max_,Builtin.max2,e1,e2]
   ·cases h
  ·cases h
 ·rename_i hf;cases lH:o.dst with
  | none=>simp[lH,cT] at h
  | some d =>
  simp only[lH,cT] at h;split at h
  ·rename_i s x T T' hx hT
   split at h
   ·rename_i hTT;subst hTT;split at h
    ·cases nH:nX P st T (st.ev s) (st.ev x) with
     | none=>simp[nH] at h
     | some u =>
     simp only[nH,Option.map_some,Option.some.injEq] at h;subst h;obtain⟨v,w',hr,S',hv⟩:=EE (ty:=o.type) S nH (S.ev s) (S.ev x)
     have ha:c.args=#[s,x]:=by apply Array.ext';simpa using hx
     have ht:c.argTypes=#[T,T]:=by apply Array.ext';simpa using hT
     rw[lH] at hd;have hk:=hK ρ _ w' (S'.put (some d) hd hv)
     unfold Oper.wp;simp only[execOp,qH,resolve,hf,ha,ht,invoke,builtin];simp[hr]
     unfold Oper.upon;rw[lH];exact hk
    split at h
    ·rename_i hpa;obtain⟨_,hs0,VA,hv'⟩:=hpa
     obtain⟨⟨_,cs⟩,hv,hv0⟩:=Option.map_eq_some_iff.1 hv'
     simp only at hv0
     subst hv0;simp only[Option.some.injEq] at h;subst h;have e1:=S.ev s
     rw[hs0] at e1;have e1:=iK e1
     obtain⟨q,c',hxv,_⟩:=sS S hv (S.ev x)
     cases hsi:dT P T with
     | none=>rw[hsi] at VA;cases VA
     | some t =>
     obtain⟨e,sz,by_⟩:=t
     obtain⟨ei,ez,hT',Ct,_⟩:=kF hsi
     have hz:∀w:World,(Builtin.firstCells ei.size 0 (.slice q 0 c')).run P w=.ok ([]:List Value).toArray w:=fun w=>by cases q<;>simp[Builtin.firstCells,loadCells,loadCellsFrom]
     have hr:(Builtin.append_ #[T,T] o.type #[.slice none 0 0,.slice q 0 c']).run P w=.ok (.slice none 0 0) w:=run_append_nothing w T T o.type e ei hT' Ct none 0 0 (Nat.le_refl _) _ ⟨.inl ⟨e,hT'⟩,fun w'=>by simp[Builtin.lenOf],hz _,hz _,by simp,by simp⟩
     have ha:c.args=#[s,x]:=by apply Array.ext';simpa using hx
     have ht:c.argTypes=#[T,T]:=by apply Array.ext';simpa using hT
     rw[lH] at hd;refine upon_value (v:=.slice none 0 0) ?_ (by rw[lH];exact hK ρ _ w (S.put (some d) hd (.v _)))
     simp[execOp,qH,resolve,hf,ha,ht,invoke,builtin,e1,hxv,hr]
    cases nH:dH P st T (st.ev s) (st.ev x) with
    | none=>simp[nH] at h
    | some ur =>
      obtain⟨u,r⟩:=ur
      simp only[nH,Option.some.injEq] at h;subst h;obtain⟨v,w',oC,hr,S'⟩:=KJ (ty:=o.type) S (hd d lH) nH (S.ev s) (S.ev x)
      have ha:c.args=#[s,x]:=by apply Array.ext';simpa using hx
      have ht:c.argTypes=#[T,T]:=by apply Array.ext';simpa using hT
      have hk:=hK oC _ w' S'
      unfold Oper.wp;simp only[execOp,qH,resolve,hf,ha,ht,invoke,builtin];simp[hr]
      unfold Oper.upon;rw[lH];exact hk
   ·cases h
  ·cases h
 ·rename_i hf;split at h
  ·rename_i x T hx hT;cases nH:sE P st T (st.ev x) with
   | none=>simp[nH] at h
   | some u =>
     simp only[nH,Option.map_some,Option.some.injEq] at h;subst h;obtain⟨w',hr,S'⟩:=QU (ty:=o.type) S nH (S.ev x)
     have ha:c.args=#[x]:=by apply Array.ext';simpa using hx
     have ht:c.argTypes=#[T]:=by apply Array.ext';simpa using hT
     have hk:=hK ρ (a.put o.dst (.tuple #[])) w' (by
      have:=S'.put o.dst hd (x:=.eG []) (v:=.tuple #[]) (.eG [] #[] rfl (by simp))
      cases u with
      | none=>exact this
      | some p=>exact this)
     unfold Oper.wp;simp only[execOp,qH,resolve,hf,ha,ht,invoke,builtin];simp[hr]
     unfold Oper.upon;exact hk
  ·cases h
 ·cases h
theorem Vy (S:kY F h0 w0 nt ρ st a w) {call:Nat→List AV→Option AV} (kK:rA P call) {o:Oper} {e:rX} (h:dP P call o st=some e) (hd:∀d,o.dst=some d→d<nt)
 (hK:∀oC a' w',kY F h0 w0 nt oC (e.apply st) a' w'→K a' w'):o.wp P a w K Q:=by
 unfold dP at h;split at h
 ·rename_i T qH;cases lH:o.dst with
  | none=>simp[lH,cT] at h
  | some d =>
    cases hz:eH P T with
    | none=>simp[lH,hz,cT] at h
    | some z =>
      simp only[lH,hz,cT,Option.some.injEq] at h;subst h;obtain⟨i,zv,hi,NN,rfl,S3⟩:=zZ hz
      obtain⟨oC,S'⟩:=S.newVar d (hd d lH) (zv.cells.toList.map .v) zv.cells T (gD.vs _ _ S3)
      refine upon_value (v:=.pointer (some ⟨w.heap.size,0,none⟩)) (w':=w.alloc (.cells zv.cells T)) ?_ (by rw[lH];exact hK oC _ _ (by rw[lL];exact S'))
      simp only[execOp,qH,Instr.alloc];simp[Cr w hi NN,Go.newVar,Go.newRow]
 ·rename_i T x qH;cases lH:o.dst with
  | none=>simp[lH,cT] at h
  | some d =>
    simp only[lH,cT] at h;split at h
    ·rename_i yR;simp only[Option.some.injEq] at h;subst h;obtain⟨oC,S'⟩:=S.newVar d (hd d lH) (st.ev x).cells (a.eval x).cells T ((S.ev x).cells yR)
     refine upon_value (v:=.pointer (some ⟨w.heap.size,0,none⟩)) (w':=w.alloc (.cells (a.eval x).cells T)) ?_ (by rw[lH];exact hK oC _ _ (by rw[lL];exact S'))
     simp only[execOp,qH,Instr.box];simp[Go.newVar,Go.newRow]
    ·cases h
 ·rename_i T n parts qH;cases lH:o.dst with
  | none=>simp[lH,cT] at h
  | some d =>
    cases hs:dT P T with
    | none=>simp[lH,hs,cT] at h
    | some t =>
      obtain⟨e',sz,by_⟩:=t
      cases hz:eH P e' with
      | none=>simp[lH,hs,hz,cT] at h
      | some z =>
        simp only[lH,hs,hz,cT] at h;split at h
        ·rename_i hc;obtain⟨c1,c2,c3⟩:=hc
         cases hf:gT (fun i=>some (i * sz,sz)) ((List.range n).flatMap fun _=>z.map .v) (parts.toList.map fun p=>(p.1,st.ev p.2)) with
         | none=>simp[hf] at h
         | some cs =>
           simp only[hf,Option.some.injEq] at h;subst h;obtain⟨v,w',xs,hr,hg,ho,oU⟩:=Uc S hs hz c1 c2 c3 hf
           obtain⟨oC,S'⟩:=S.newRow d (hd d lH) hg e' sz n cs xs v ho oU
           refine upon_value (v:=v) (w':=w') ?_ (by rw[lH];exact hK oC _ _ (by rw[lL];exact S'))
           simp only[execOp,qH];rw[dL hr];rfl
        ·cases h
 ·rename_i T l c qH;cases lH:o.dst with
  | none=>simp[lH,cT] at h
  | some d =>
    cases hs:dT P T with
    | none=>simp[lH,hs,cT] at h
    | some t =>
      obtain⟨e',sz,by_⟩:=t
      cases hz:eH P e' with
      | none=>simp[lH,hs,hz,cT] at h
      | some z =>
        simp only[lH,hs,hz,cT] at h;split at h
        ·rename_i n m hl hc;split at h
         ·rename_i R9;obtain⟨c1,rfl,c3,c4⟩:=R9
          simp only[Option.some.injEq] at h;subst h;obtain⟨k,rfl⟩:∃k:Nat,n=k:=⟨n.toNat,by omega⟩
          obtain⟨v,w',xs,hr,hg,ho,oU⟩:=Ww (w:=w) (ctx h0 w0 ρ st w) hs hz (n:=k) (by
           have:((k * by_:Nat):Int)≤140737488355328:=by rw[Int.natCast_mul];exact c3
           omega) (by omega)
          obtain⟨oC,S'⟩:=S.newRow d (hd d lH) hg e' sz k _ xs v ho oU
          simp only[Int.toNat_natCast] at hK;refine upon_value (v:=v) (w':=w') ?_ (by rw[lH];exact hK oC _ _ (by rw[lL];exact S'))
          have e1:=S.ev l
          rw[hl] at e1;have e1:=iK e1
          have e2:=S.ev c
          rw[hc] at e2;have e2:=iK e2
          simp only[execOp,qH,e1,e2];rw[dL hr];rfl
         ·cases h
        ·cases h
 ·rename_i T x y qH;cases hs:qA P st T (st.ev x) (st.ev y) with
  | none=>simp[hs] at h
  | some u =>
    obtain⟨s,g,e'⟩:=u
    simp only[hs,Option.map_some,Option.some.injEq] at h;subst h;obtain⟨w',hr,S'⟩:=QT S hs (S.ev x) (S.ev y)
    have hk:=hK ρ _ w' (S'.put o.dst hd (.v undef))
    unfold Oper.wp;simp only[execOp,qH];rw[dL hr];exact hk
 ·rename_i T qH;cases lH:o.dst with
  | none=>simp[lH,cT] at h
  | some d =>
    simp only[lH,cT,Option.some.injEq] at h;subst h;obtain⟨S',k,pA⟩:=S.new (World.grownBy_alloc w (.map #[] 0) none) d (.map []) (.map (some w.heap.size)) rfl (fun b hb=>by simp[dI] at hb;omega)
     (fun C k _=>⟨w.heap.size,#[],0,rfl,S.ext.size,heap_alloc_new w _,trivial⟩)
    have bA:st.aU d<(ctx h0 w0 (uD ρ d (st.aU d) (.map (some w.heap.size))) (st.new d (.map [])) (w.alloc (.map #[] 0))).aU d:=by simp[ctx,St.new]
    have lD:(ctx h0 w0 (uD ρ d (st.aU d) (.map (some w.heap.size))) (st.new d (.map [])) (w.alloc (.map #[] 0))).ρ d (st.aU d)=.map (some w.heap.size):=pA
    have:=cY.mp (C:=ctx h0 w0 (uD ρ d (st.aU d) (.map (some w.heap.size))) (st.new d (.map [])) (w.alloc (.map #[] 0))) d (st.aU d) bA (by rw[lD];rfl)
    rw[lD] at this;have hS:=S'.put (some d) (fun t ht=>by cases ht;exact hd d lH) this
    refine upon_value (v:=.map (some w.heap.size)) (w':=w.alloc (.map #[] 0)) ?_ (by rw[lH];exact hK _ _ _ (by rw[lL];exact hS))
    simp only[execOp,qH,Option.map_none];rfl
 ·rename_i T m x y qH;cases hs:uA P st T (st.ev m) (st.ev x) (st.ev y) with
  | none=>simp[hs] at h
  | some u =>
    obtain⟨s,g,e'⟩:=u
    simp only[hs,Option.map_some,Option.some.injEq] at h;subst h;obtain⟨w',hr,S'⟩:=KB S hs (S.ev m) (S.ev x) (S.ev y)
    have hk:=hK ρ _ w' (S'.put o.dst hd (.v undef))
    unfold Oper.wp;simp only[execOp,qH];rw[dL hr];exact hk
 ·rename_i c qH;exact EF S kK qH h hd hK
 ·cases hv:iX P st o.op with
  | none=>simp[hv] at h
  | some x =>
    simp only[hv,Option.map_some,Option.some.injEq] at h;subst h;obtain⟨v,hr,fU⟩:=QP S hv
    exact upon_value hr (hK ρ _ w (S.put o.dst hd fU))
end
end Go.Ab
end
section
namespace Go.Ab
open Classical
def mP (aU:Nat→Nat) (x:AV):Prop:=∃(C:Ctx) (v:Value),C.aU=aU∧cY C x v
theorem mP.ptr {aU:Nat→Nat} {s g o:Nat} (h:mP aU (.ptr s g o)):g<aU s:=by
 obtain⟨C,v,rfl,h⟩:=h
 cases h with
 | ptr s g off b hg hb=>exact hg
theorem mP.own {aU:Nat→Nat} {s g:Nat} (h:mP aU (.own s g)):g<aU s:=by
 obtain⟨C,v,rfl,h⟩:=h
 cases h with
 | own s g hg _=>exact hg
theorem mP.vw {aU:Nat→Nat} {s g o n:Nat} (h:mP aU (.vw s g o n)):g<aU s:=by
 obtain⟨C,v,rfl,h⟩:=h
 cases h with
 | vw s g o n b cap hg _ _ _=>exact hg
theorem mP.mp {aU:Nat→Nat} {s g:Nat} (h:mP aU (.mp s g)):g<aU s:=by
 obtain⟨C,v,rfl,h⟩:=h
 cases h with
 | mp s g hg _=>exact hg
theorem mP.agg {aU:Nat→Nat} {cs:List AV} (h:mP aU (.agg cs)):∀c∈cs,mP aU c:=by
 obtain⟨C,v,rfl,h⟩:=h
 cases h with
 | agg cs a hl hr _ =>
   intro c hc;obtain⟨i,hi,rfl⟩:=List.getElem_of_mem hc
   exact⟨C,a[i],rfl,hr i _ _ (by simp[hi]) (by simp)⟩
theorem mP.rW {aU:Nat→Nat} {f:Nat} {cs:List AV} (h:mP aU (.rW f cs)):∀c∈cs,mP aU c:=by
 obtain⟨C,v,rfl,h⟩:=h
 cases h with
 | rW f cs a hl hr =>
   intro c hc;obtain⟨i,hi,rfl⟩:=List.getElem_of_mem hc
   exact⟨C,a[i]'(by omega),rfl,hr i _ _ (by simp[hi]) (by simp)⟩
section
variable {P:Program} {call:Nat→List AV→Option AV} {st st':St}
def qF (st st':St):Prop:=∀s g,g<st.aU s→st'.heap s g=st.heap s g
theorem KK {x:AV} (hx:mP st.aU x) (hh:qF st st'):qO st' x=qO st x:=by
 cases x<;>simp only[qO]
 rw[hh _ _ hx.ptr]
theorem sU {x:AV} (hx:mP st.aU x) (hh:qF st st'):aX st' x=aX st x:=by
 cases x
 case own=>simp only[aX,hh _ _ hx.own]
 case vw=>simp only[aX,hh _ _ hx.vw]
 case v y =>
  cases y
  case slice p n c=>cases p<;>cases n<;>cases c<;>rfl
  all_goals rfl
 all_goals rfl
theorem Ue {T:Nat} {x i:AV} (hx:mP st.aU x) (hh:qF st st'):bH P st' T x i=bH P st T x i:=by
 unfold bH;cases x<;>try rfl
 simp only[hh _ _ hx.own]
theorem BA {T:Nat} {x:AV} {lo hi:Option Operand} (hx:∀s g,((∃o,x=.ptr s g o)∨x=.own s g∨∃o n,x=.vw s g o n)→st'.heap s g=st.heap s g) (hl:∀p,lo=some p→st'.ev p=st.ev p) (Dr:∀p,hi=some p→st'.ev p=st.ev p):dB P st' T x lo hi=dB P st T x lo hi:=by
 unfold dB;cases dT P T with
 | none =>
   simp only
   cases jK P T with
   | none=>rfl
   | some na =>
     cases x<;>try rfl
     rename_i s g o;cases lo<;>cases hi<;>try rfl
     simp only[hx s g (.inl ⟨o,rfl⟩)]
 | some t =>
   simp only
   cases x<;>try rfl
   case v y =>
    cases y<;>try rfl
    rename_i p n c;cases p<;>cases n<;>cases c<;>try rfl
    cases lo with
    | none=>cases hi with
      | none=>rfl
      | some h=>simp only[Dr h rfl]
    | some l=>cases hi with
      | none=>simp only[hl l rfl]
      | some h=>simp only[hl l rfl,Dr h rfl]
   case sl n cs =>
    cases lo with
    | none=>cases hi with
      | none=>rfl
      | some h=>simp only[Dr h rfl]
    | some l=>cases hi with
      | none=>simp only[hl l rfl]
      | some h=>simp only[hl l rfl,Dr h rfl]
   case own s g =>
    simp only[hx s g (.inr (.inl rfl))];cases lo with
    | none=>cases hi with
      | none=>rfl
      | some h=>simp only[Dr h rfl]
    | some l=>cases hi with
      | none=>simp only[hl l rfl]
      | some h=>simp only[hl l rfl,Dr h rfl]
   case vw s g o n =>
    cases o with
    | succ o=>rfl
    | zero =>
      simp only[hx s g (.inr (.inr ⟨_,_,rfl⟩))];cases st.heap s g with
      | none=>rfl
      | some e=>cases e with
        | row e' tU n' Fq =>
          cases lo with
          | none=>cases hi<;>rfl
          | some l=>cases hi with
            | none=>rfl
            | some h=>simp only[hl l rfl,Dr h rfl]
        | _=>rfl
theorem KL {T:Nat} {x:AV} {lo hi:Option Operand} (hx:mP st.aU x) (hh:qF st st') (hl:∀p,lo=some p→st'.ev p=st.ev p) (Dr:∀p,hi=some p→st'.ev p=st.ev p):dB P st' T x lo hi=dB P st T x lo hi :=
 BA (fun s g h=>by
  rcases h with ⟨o,rfl⟩|rfl|⟨o,n,rfl⟩
  ·exact hh _ _ hx.ptr
  ·exact hh _ _ hx.own
  ·exact hh _ _ hx.vw) hl Dr
def EG (st:St):Prop:=∀s g cs,st.heap s g=some (.cells cs)→∀c∈cs,mP st.aU c
theorem QV {x:AV} (hx:mP st.aU x) (hh:qF st st'):wW st' x=wW st x:=by
 unfold wW;cases x<;>try rfl
 ·simp only[hh _ _ hx.own]
 ·simp only[hh _ _ hx.vw]
theorem Ji (hp:EG st) {x:AV} (hx:mP st.aU x) (hh:qF st st'):cJ st' x=cJ st x:=by
 unfold cJ;cases x<;>try rfl
 ·rename_i s g o;simp only[hh _ _ hx.ptr];cases he:st.heap s g with
  | none=>rfl
  | some e =>
    cases e with
    | cells cs =>
      have:cs.map (wW st')=cs.map (wW st):=List.map_congr_left fun c hc=>QV (hp s g cs he c hc) hh
      simp only[this]
    | _=>rfl
 ·simp only[hh _ _ hx.own]
 ·simp only[hh _ _ hx.vw]
theorem BB (hp:EG st) {x:AV} (hx:mP st.aU x) (hh:qF st st'):fP st' x=fP st x:=by
 unfold fP;cases x<;>try (simp only[Ji hp hx hh];done)
 ·rename_i cs;have:cs.map (cJ st')=cs.map (cJ st):=List.map_congr_left fun c hc=>Ji hp (hx.agg c hc) hh
  simp only[this]
 ·rename_i f cs;have:cs.map (cJ st')=cs.map (cJ st):=List.map_congr_left fun c hc=>Ji hp (hx.rW c hc) hh
  simp only[this]
theorem KM {T:Nat} {x y:AV} (hx:mP st.aU x) (hh:qF st st'):qA P st' T x y=qA P st T x y:=by
 unfold qA;cases x<;>try rfl
 simp only[hh _ _ hx.ptr]
theorem EH {T:Nat} {s x:AV} (hs:mP st.aU s) (hx:mP st.aU x) (hh:qF st st'):dH P st' T s x=dH P st T s x:=by
 unfold dH;simp only[sU hx hh];cases s
 case own=>simp only[hh _ _ hs.own]
 case v y =>
  cases y
  case slice p n c=>cases p<;>cases n<;>cases c<;>rfl
  all_goals rfl
 all_goals rfl
theorem EI {T:Nat} {s x:AV} (hs:mP st.aU s) (hx:mP st.aU x) (hh:qF st st'):nX P st' T s x=nX P st T s x:=by
 unfold nX;rw[sU hx hh];cases dT P T with
 | none=>rfl
 | some t=>cases aX st x with
   | none=>rfl
   | some mn =>
     cases s<;>try rfl
     case vw s g o n =>
      cases o with
      | zero=>simp only[hh _ _ hs.vw]
      | succ o=>rfl
theorem KN {T:Nat} {x:AV} (hx:mP st.aU x) (hh:qF st st'):sE P st' T x=sE P st T x:=by
 unfold sE;cases dT P T with
 | none=>rfl
 | some t =>
   cases x<;>try rfl
   case vw s g o n=>simp only[hh _ _ hx.vw]
   case v y =>
    cases y<;>try rfl
    rename_i p n c;cases p<;>cases n<;>cases c<;>rfl
   case sl n cs=>cases n<;>rfl
theorem Vz {T:Nat} {x:AV} {lo:Option Operand} {hi mx:Operand} (hx:∀s g,x=.own s g→st'.heap s g=st.heap s g) (hl:∀p,lo=some p→st'.ev p=st.ev p) (h1:st'.ev hi=st.ev hi) (h2:st'.ev mx=st.ev mx):Bo P st' T x lo hi mx=Bo P st T x lo hi mx:=by
 unfold Bo;rw[h1,h2];cases dT P T with
 | none=>rfl
 | some t =>
   simp only
   cases lo with
   | none =>
     simp only
     cases x<;>try rfl
     case own s g=>simp only[hx s g rfl]
     case v y =>
      cases y<;>try rfl
      rename_i p n c;cases p<;>cases n<;>cases c<;>rfl
   | some l =>
     simp only[hl l rfl];cases x<;>try rfl
     case own s g=>simp only[hx s g rfl]
     case v y =>
      cases y<;>try rfl
      rename_i p n c;cases p<;>cases n<;>cases c<;>rfl
theorem QW {T:Nat} {m x:AV} {ok:Bool} (hm:mP st.aU m) (hh:qF st st'):Vj P st' T m x ok=Vj P st T m x ok:=by
 unfold Vj;cases m<;>try rfl
 simp only[hh _ _ hm.mp]
theorem EJ {T:Nat} {m x y:AV} (hm:mP st.aU m) (hh:qF st st'):uA P st' T m x y=uA P st T m x y:=by
 unfold uA;cases m<;>try rfl
 simp only[hh _ _ hm.mp]
theorem KO {r:AV} {dst:Option Nat} (hc:∀d,dst=some d→st'.aU d=st.aU d):jD r st' dst=jD r st dst:=by
 unfold jD;cases dst with
 | none=>rfl
 | some d=>simp only[hc d rfl]
theorem zA (hp:EG st) {g:Nat} {args:List AV} {dst:Option Nat} (hx:∀x∈args,mP st.aU x) (hh:qF st st') (hc:∀d,dst=some d→st'.aU d=st.aU d):aO call g args st' dst=aO call g args st dst:=by
 unfold aO;have:args.map (fP st')=args.map (fP st):=List.map_congr_left fun x Kn=>BB hp (hx x Kn) hh
 rw[this];have h2:∀r,jD r st' dst=jD r st dst:=fun r=>KO hc
 simp only[h2]
theorem KP (hp:EG st) {g:Nat} {args:List AV} {dst:Option Nat} (hx:∀x∈args,mP st.aU x) (hh:qF st st') (hc:∀d,dst=some d→st'.aU d=st.aU d):lN call g args st' dst=lN call g args st dst:=by
 unfold lN;split
 ·rename_i s k rest;rw[hh _ _ (hx _ (List.mem_cons_self ..)).own];cases dst with
  | none=>rfl
  | some d=>simp only[hc d rfl]
 ·rw[zA hp hx hh hc]
theorem EK (hp:EG st) {g:Nat} {args:List AV} {dst:Option Nat} (hx:∀x∈args,mP st.aU x) (hh:qF st st') (hc:∀d,dst=some d→st'.aU d=st.aU d):fG call g args st' dst=fG call g args st dst:=by
 have h1:=zA (call:=call) (g:=g) hp hx hh hc
 have:args.map (fP st')=args.map (fP st):=List.map_congr_left fun x Kn=>BB hp (hx x Kn) hh
 unfold fG;rw[this,h1];have h2:∀r s k,Ft r st' dst s k=Ft r st dst s k:=fun r s k=>by
  unfold Ft;cases dst with
  | none=>cases r<;>rfl
  | some d=>cases r<;>simp only[hc d rfl]
 simp only[h2]
theorem Re {parts:List (Nat × Operand)} (h:∀p∈parts,st'.ev p.2=st.ev p.2):(parts.map fun p=>(p.1,st'.ev p.2))=parts.map fun p=>(p.1,st.ev p.2) :=
 List.map_congr_left fun p hp=>by rw[h p hp]
theorem Ye {parts:List (Nat × Operand)} (h:∀p∈parts,st'.ev p.2=st.ev p.2):(parts.all fun p=>(st'.ev p.2).jE)=parts.all fun p=>(st.ev p.2).jE:=by
 induction parts with
 | nil=>rfl
 | cons p ps ih =>
   simp only[List.all_cons];rw[h p (by simp),ih fun q hq=>h q (by simp[hq])]
theorem K1 {aU:Nat→Nat} {x:AV} {g:Nat} {mJ:List AV} (h:IN x=some (g,mJ)) (hx:mP aU x):∀c∈mJ,mP aU c:=by
 unfold IN at h;split at h
 ·split at h
  ·simp only[Option.some.injEq,Prod.mk.injEq] at h;obtain⟨rfl,rfl⟩:=h
   simp
  ·cases h
 ·simp only[Option.some.injEq,Prod.mk.injEq] at h;obtain⟨rfl,rfl⟩:=h
  exact hx.rW
 ·cases h
variable [Ext]
theorem EL (hp:EG st) {c:Call} {dst:Option Nat} (he:∀p∈c.operands,st'.ev p=st.ev p) (hi:∀p∈c.operands,mP st.aU (st.ev p)) (hh:qF st st') (hc:∀d,dst=some d→st'.aU d=st.aU d) :
 iS P call c dst st'=iS P call c dst st:=by
 have xR:∀p∈c.args.toList,p∈c.operands:=fun p hp=>by simp[Call.operands];right;simpa using hp
 unfold iS;split
 ·rename_i f hf;have hfo:f∈c.operands:=by simp[Call.operands,hf]
  have hm:c.args.toList.map st'.ev=c.args.toList.map st.ev:=List.map_congr_left fun p hp=>he p (xR p hp)
  have hia:∀x∈c.args.toList.map st.ev,mP st.aU x:=fun x hx=>by
   obtain⟨p,hp,rfl⟩:=List.mem_map.1 hx
   exact hi p (xR p hp)
  unfold nY;rw[hm];split
  ·split
   ·exact KP hp hia hh hc
   ·split
    ·exact EK hp hia hh hc
    ·exact zA hp hia hh hc
  ·rw[he f hfo];cases h:IN (st.ev f) with
   | none=>rfl
   | some gc =>
     obtain⟨g,mJ⟩:=gc
     refine zA hp (fun x hx=>?_) hh hc
     rcases List.mem_append.1 hx with hx|hx
     ·exact hia x hx
     ·exact K1 h (hi f hfo) x hx
 ·split
  ·rename_i x T hx hT;have hxo:=xR x (by rw[hx];simp)
   rw[he x hxo,sU (hi x hxo) hh]
  ·rfl
 ·split
  ·rename_i x y hx;rw[he x (xR x (by rw[hx];simp)),he y (xR y (by rw[hx];simp))]
  ·rfl
 ·split
  ·rename_i x y hx;rw[he x (xR x (by rw[hx];simp)),he y (xR y (by rw[hx];simp))]
  ·rfl
 ·cases dst with
  | none=>rfl
  | some d =>
  simp only[cT];split
  ·rename_i s x T T' hx hT
   have hso:=xR s (by rw[hx];simp)
   have hxo:=xR x (by rw[hx];simp)
   have hn:Hy P st' T (st'.ev s) (st'.ev x)=Hy P st T (st.ev s) (st.ev x):=by simp only[Hy,he s hso,he x hxo,sU (hi x hxo) hh]
   rw[hn,he s hso,he x hxo,EH (hi s hso) (hi x hxo) hh,EI (hi s hso) (hi x hxo) hh,hc d rfl]
  ·rfl
 ·split
  ·rename_i x T hx hT;have hxo:=xR x (by rw[hx];simp)
   rw[he x hxo,KN (hi x hxo) hh]
  ·rfl
 ·rfl
theorem QX (hp:EG st) {o:Oper} (he:∀p∈o.op.operands,st'.ev p=st.ev p) (hi:∀p∈o.op.operands,mP st.aU (st.ev p)) (hh:qF st st') (hc:∀d,o.dst=some d→st'.aU d=st.aU d) :
 dP P call o st'=dP P call o st:=by
 obtain⟨dst,op,type,pos,after,guard⟩:=o
 cases op<;>simp only[dP,iX,Op.operands] at *
 case call c=>exact EL hp he hi hh hc
 case alloc T=>cases dst with
  | none=>rfl
  | some d=>simp only[cT,hc d rfl]
 case box T x=>cases dst with
  | none=>rfl
  | some d=>simp only[cT,hc d rfl,he x (by simp)]
 case buildSlice T n parts =>
  have Be:∀p∈parts.toList,st'.ev p.2=st.ev p.2:=fun p hp=>he p.2 (by simp;exact⟨p.1,by simpa using hp⟩)
  rw[Re Be,Ye Be];cases dst with
  | none=>rfl
  | some d=>simp only[cT,hc d rfl]
 case makeSlice T l c =>
  rw[he l (by simp),he c (by simp)]
  cases dst with
  | none=>rfl
  | some d=>simp only[cT,hc d rfl]
 case makeMap T r =>
  cases r with
  | none=>cases dst with
    | none=>rfl
    | some d=>simp only[cT,hc d rfl]
  | some r=>rfl
 case mapUpdate T m x y=>rw[he m (by simp),he x (by simp),he y (by simp),EJ (hi m (by simp)) hh]
 case lookup T m x ok=>rw[he m (by simp),he x (by simp),QW (hi m (by simp)) hh]
 case store T x y=>rw[he x (by simp),he y (by simp),KM (hi x (by simp)) hh]
 case move x=>rw[he x (by simp)]
 case assign x=>rw[he x (by simp)]
 case pick c x y=>rw[he c (by simp),he x (by simp),he y (by simp)]
 case binOp op T x y yT=>rw[he x (by simp),he y (by simp)]
 case unOp op T x=>rw[he x (by simp)]
 case convert s d x=>rw[he x (by simp)]
 case nilCheck x=>rw[he x (by simp)]
 case field T x f=>rw[he x (by simp)]
 case fieldAddr T x f=>rw[he x (by simp)]
 case indexAddr T x i=>rw[he x (by simp),he i (by simp),Ue (hi x (by simp)) hh]
 case load T x=>rw[he x (by simp),KK (hi x (by simp)) hh]
 case extract t i=>rw[he t (by simp)]
 case build T parts =>
  have Be:∀p∈parts.toList,st'.ev p.2=st.ev p.2:=fun p hp=>he p.2 (by simp;exact⟨p.1,by simpa using hp⟩)
  unfold iW;rw[Re Be,Ye Be]
 case slice T x lo Dr mx =>
  cases mx with
  | some m =>
    cases Dr with
    | none=>rfl
    | some h =>
      simp only
      rw[he x (by simp),Vz (fun s g hx=>by have:=hi x (by simp);rw[hx] at this;exact hh _ _ this.own) (fun p hp=>he p (by simp[hp])) (he h (by simp)) (he m (by simp))]
  | none =>
    simp only
    rw[he x (by simp),KL (hi x (by simp)) hh (fun p hp=>he p (by simp[hp])) (fun p hp=>he p (by simp[hp]))]
 case makeFunc fn first captured =>
  cases fn with
  | func f =>
    simp only
    have:captured.toList.map st'.ev=captured.toList.map st.ev:=List.map_congr_left fun p hp=>he p (by simp;right;simpa using hp)
    rw[this]
  | _=>rfl
theorem KQ {ops:Array Oper} {o:Oper} (Ac:mR ops o=0∨mR ops o=2) (he:∀p∈o.op.operands,st'.ev p=st.ev p) (hc:∀d,o.dst=some d→st'.aU d=st.aU d) :
 dP P call o st'=dP P call o st:=by
 obtain⟨dst,op,type,pos,after,guard⟩:=o
 cases op<;>simp only[dP,iX,Op.operands,mR] at *
 case call c =>
  exfalso
  obtain⟨callee,args,tR⟩:=c
  cases callee with
  | builtin b=>cases b<;>simp at Ac;split at Ac<;>simp at Ac
  | value f=>cases f<;>simp at Ac;split at Ac<;>(try split at Ac)<;>(try split at Ac)<;>simp at Ac
  | _=>simp at Ac
 case alloc T=>cases dst with
  | none=>rfl
  | some d=>simp only[cT,hc d rfl]
 case box T x=>cases dst with
  | none=>rfl
  | some d=>simp only[cT,hc d rfl,he x (by simp)]
 case buildSlice T n parts =>
  have Be:∀p∈parts.toList,st'.ev p.2=st.ev p.2:=fun p hp=>he p.2 (by simp;exact⟨p.1,by simpa using hp⟩)
  rw[Re Be,Ye Be];cases dst with
  | none=>rfl
  | some d=>simp only[cT,hc d rfl]
 case makeSlice T l c =>
  rw[he l (by simp),he c (by simp)]
  cases dst with
  | none=>rfl
  | some d=>simp only[cT,hc d rfl]
 case makeMap T r =>
  cases r with
  | none=>cases dst with
    | none=>rfl
    | some d=>simp only[cT,hc d rfl]
  | some r=>rfl
 case mapUpdate T m x y=>simp at Ac
 case lookup T m x ok=>simp at Ac
 case store T x y=>simp at Ac
 case move x=>rw[he x (by simp)]
 case assign x=>rw[he x (by simp)]
 case pick c x y=>rw[he c (by simp),he x (by simp),he y (by simp)]
 case binOp op T x y yT=>rw[he x (by simp),he y (by simp)]
 case unOp op T x=>rw[he x (by simp)]
 case convert s d x=>rw[he x (by simp)]
 case nilCheck x=>rw[he x (by simp)]
 case field T x f=>rw[he x (by simp)]
 case fieldAddr T x f=>rw[he x (by simp)]
 case indexAddr T x i=>simp at Ac
 case load T x=>simp at Ac
 case extract t i=>rw[he t (by simp)]
 case build T parts =>
  have Be:∀p∈parts.toList,st'.ev p.2=st.ev p.2:=fun p hp=>he p.2 (by simp;exact⟨p.1,by simpa using hp⟩)
  unfold iW;rw[Re Be,Ye Be]
 case slice T x lo Dr mx=>simp at Ac
 case makeFunc fn first captured =>
  cases fn with
  | func f =>
    simp only
    have:captured.toList.map st'.ev=captured.toList.map st.ev:=List.map_congr_left fun p hp=>he p (by simp;right;simpa using hp)
    rw[this]
  | _=>rfl
end
end Go.Ab
end
section
namespace Go.Ab
open Classical
section
variable {P:Program} {call:Nat→List AV→Option AV} {st st':St} {ops:Array Oper}
theorem Rf {r:AV} {dst:Option Nat} {e:rX} (h:jD r st dst=some e):e.dst=dst∧e.dS=none∧∀d x,e.new=some (d,x)→dst=some d:=by
 unfold jD at h;split at h
 ·simp only[Option.some.injEq] at h;subst h;exact⟨rfl,rfl,fun d x h=>by simp at h⟩
 ·cases dst with
  | none=>cases h
  | some d=>simp only[Option.some.injEq] at h;subst h;exact⟨rfl,rfl,fun d x h=>by simp at h;rw[h.1]⟩
theorem zB {g:Nat} {args:List AV} {dst:Option Nat} {e:rX} (h:aO call g args st dst=some e):e.dst=dst∧e.dS=none∧∀d x,e.new=some (d,x)→dst=some d:=by
 unfold aO at h;split at h
 ·cases hc:call g args with
  | none=>simp[hc,cT] at h
  | some r=>simp only[hc,cT] at h;exact Rf h
 ·split at h
  ·rename_i xs _;cases hc:call g xs with
   | none=>simp[hc,cT] at h
   | some r =>
     simp only[hc,cT] at h;split at h
     ·exact Rf h
     ·cases h
  ·cases h
theorem Rh {g:Nat} {args:List AV} {dst:Option Nat} {e:rX} (h:lN call g args st dst=some e):e.dst=dst∧(∀d x,e.new=some (d,x)→dst=some d)∧∀s k x,e.dS=some (s,k,x)→args.head? = some (.own s k):=by
 unfold lN at h;split at h
 ·split at h
  ·split at h
   ·split at h
    ·cases dst with
     | none=>cases h
     | some d =>
       simp only[Option.some.injEq] at h;subst h;exact⟨rfl,fun d x h=>by simp at h;rw[h.1],fun s k x h=>by simp at h;simp[h.1,h.2.1]⟩
    ·simp only[Option.some.injEq] at h;subst h;exact⟨rfl,fun d x h=>by simp at h,fun s k x h=>by simp at h;simp[h.1,h.2.1]⟩
    ·cases h
   ·cases h
  ·cases h
 ·split at h
  ·obtain⟨h1,h2,h3⟩:=zB h
   exact⟨h1,h3,fun s k x h=>by rw[h2] at h;cases h⟩
  ·cases h
theorem EM {g:Nat} {args:List AV} {dst:Option Nat} {e:rX} (h:fG call g args st dst=some e):e.dst=dst∧(∀d x,e.new=some (d,x)→dst=some d)∧∀s k x,e.dS=some (s,k,x)→∃y∈args,y=.own s k∨∃cs,y=.agg cs∧.own s k∈cs:=by
 unfold fG at h;split at h
 ·rename_i s k hk;split at h
  ·split at h
   ·rename_i xs _;cases hc:call g xs with
    | none=>simp[hc,cT] at h
    | some r =>
      simp only[hc,cT] at h;have hu:e.dS=some (s,k,none)∧e.dst=dst∧∀d x,e.new=some (d,x)→dst=some d:=by
       rcases Rd h with ⟨_,rfl⟩|⟨_,e1,sz,n,cs,d,rfl,rfl,_,rfl⟩
       ·exact⟨rfl,rfl,fun d x h=>by simp at h⟩
       ·exact⟨rfl,rfl,fun d x h=>by simp at h;rw[h.1]⟩
      ·refine⟨hu.2.1,hu.2.2,fun s' k' x h=>?_⟩
       rw[hu.1] at h;simp only[Option.some.injEq,Prod.mk.injEq] at h;obtain⟨rfl,rfl,_⟩:=h
       have hm:(s,k)∈args.flatMap jF:=by rw[hk];simp
       obtain⟨y,hy,hyk⟩:=List.mem_flatMap.1 hm
       refine⟨y,hy, ?_⟩
       have key:∀c,(s,k)∈gQ c→c=.own s k:=fun c hc=>by
        cases c<;>simp[gQ] at hc
        obtain⟨rfl,rfl⟩:=hc
        rfl
       cases y with
       | agg cs =>
         obtain⟨c,hc,hck⟩:=List.mem_flatMap.1 (show (s,k)∈cs.flatMap gQ from hyk)
         exact .inr ⟨cs,rfl,by rw[← key c hck];exact hc⟩
       | own a b=>exact .inl (key _ hyk)
       | _=>simp[jF,gQ] at hyk
   ·cases h
  ·cases h
 ·obtain⟨h1,h2,h3⟩:=zB h
  exact⟨h1,h3,fun s k x h=>by rw[h2] at h;cases h⟩
theorem oQ (e:rX) (t:Nat):(e.apply st).env t=if e.dst=some t then e.val else st.env t:=by
 have h2:∀(s1:St),(s1.put e.dst e.val).env t=if e.dst=some t then e.val else s1.env t:=fun s1=>by
  cases hd:e.dst with
  | none=>simp[St.put]
  | some d =>
    simp only[St.put,Option.some.injEq];by_cases h:t=d
    ·subst h;simp
    ·rw[if_neg h,if_neg (fun h'=>h h'.symm)]
 unfold rX.apply;rw[h2];cases e.dS<;>cases e.new<;>rfl
theorem lM (e:rX) (s:Nat):(e.apply st).aU s=match e.new with
 | some (d,es)=>if s=d then st.aU d+es.length else st.aU s
 | none=>st.aU s:=by
 unfold rX.apply;rw[l9];cases e.dS<;>cases e.new<;>rfl
theorem tD (e:rX) (s g:Nat):(e.apply st).heap s g=match e.new with
 | some (d,es)=>if s=d∧st.aU d≤g∧g-st.aU d<es.length then es[g-st.aU d]? else (match e.dS with
   | some (s0,g0,y)=>if s=s0∧g=g0 then y else st.heap s g
   | none=>st.heap s g)
 | none=>(match e.dS with
   | some (s0,g0,y)=>if s=s0∧g=g0 then y else st.heap s g
   | none=>st.heap s g):=by
 unfold rX.apply;rw[Yp];cases e.dS<;>cases e.new<;>rfl
theorem aAI {o:Oper} (h:∀j want d,o.guard=some (j,want)→(ops[j]?).bind (·.dst)=some d→st'.env d=st.env d):gv ops st' o.guard=gv ops st o.guard:=by
 unfold gv;cases hg:o.guard with
 | none=>rfl
 | some jw =>
   obtain⟨j,want⟩:=jw
   simp only
   cases hd:(ops[j]?).bind (·.dst) with
   | none=>rfl
   | some d=>simp only[h j want d hg hd]
theorem aAJ {a b:St} (h1:a.env=b.env) (h2:a.heap=b.heap) (h3:a.aU=b.aU):a=b:=by
 cases a;cases b;simp_all
theorem BC {T:Nat} {p x:AV} {u:Nat × Nat × nP × Nat} (h:nX P st T p x=some u):∃n,p=.vw u.1 u.2.1 0 n:=by
 unfold nX at h;split at h
 ·split at h
  ·split at h
   ·simp only[Option.some.injEq] at h;subst h;exact⟨_,rfl⟩
   ·cases h
  ·cases h
 ·cases h
theorem K2 {T:Nat} {p:AV} {u:Nat × Nat × nP} (h:sE P st T p=some (some u)):∃o n,p=.vw u.1 u.2.1 o n:=by
 unfold sE at h;split at h
 ·split at h
  ·split at h
   ·simp only[Option.some.injEq] at h;subst h;exact⟨_,_,rfl⟩
   ·cases h
  ·cases h
 ·simp at h
 ·simp at h
 ·cases h
variable [Ext]
theorem QY {o:Oper} {e:rX} (h:dP P call o st=some e) :
 e.dst=o.dst∧(∀d x,e.new=some (d,x)→o.dst=some d)∧(∀s g x,e.dS=some (s,g,x)→mR ops o=3∧∃p∈o.op.operands,(∃off,st.ev p=.ptr s g off)∨st.ev p=.own s g∨st.ev p=.mp s g∨(∃cs,st.ev p=.agg cs∧.own s g∈cs)∨∃o n,st.ev p=.vw s g o n):=by
 obtain⟨dst,op,type,pos,after,guard⟩:=o
 have val:∀x:Option AV,(x.map fun y=>({ dst:=dst,val:=y }:rX))=some e→e.dst=dst∧(∀d x,e.new=some (d,x)→dst=some d)∧(∀s g x,e.dS≠some (s,g,x)):=fun x h=>by
  cases x with
  | none=>simp at h
  | some y=>simp at h;subst h;exact⟨rfl,fun d x h=>by simp at h,fun s g x h=>by simp at h⟩
 cases op
 case call c =>
  simp only[dP] at h;unfold iS at h;split at h
  ·rename_i f hc;unfold nY at h;split at h
   ·rename_i g;split at h
    ·rename_i hmv;obtain⟨h1,h2,h3⟩:=Rh h
     refine⟨h1,h2,fun s k x hu=>?_⟩
     have hh:=h3 s k x hu
     obtain⟨callee,args,tR⟩:=c
     simp only at hc hh
     subst hc;cases hl:args.toList with
     | nil=>rw[hl] at hh;simp at hh
     | cons p ps =>
       rw[hl] at hh;simp only[List.map_cons,List.head?_cons,Option.some.injEq] at hh;refine⟨?_,p, ?_,.inr (.inl hh)⟩
       ·simp only[mR,hl,hmv];cases p with
        | const v=>simp[St.ev] at hh
        | _=>simp
       simp only[Op.operands,Call.operands];simp
       right
       rw[← Array.mem_toList_iff,hl];simp
    ·split at h
     ·rename_i heat;obtain⟨h1,h2,h3⟩:=EM h
      refine⟨h1,h2,fun s k x hu=>?_⟩
      obtain⟨y,hy,hyo⟩:=h3 s k x hu
      obtain⟨callee,args,tR⟩:=c
      simp only at hc hy
      subst hc;refine⟨by simp[mR,heat], ?_⟩
      obtain⟨p,hp,rfl⟩:=List.mem_map.1 hy
      refine⟨p, ?_, ?_⟩
      ·simp only[Op.operands,Call.operands];simp
       right
       simpa using hp
      ·rcases hyo with h|⟨cs,h,hm⟩
       ·exact .inr (.inl h)
       ·exact .inr (.inr (.inr (.inl ⟨cs,h,hm⟩)))
     ·obtain⟨h1,h2,h3⟩:=zB h
      exact⟨h1,h3,fun s g x h=>by rw[h2] at h;cases h⟩
   ·split at h
    ·obtain⟨h1,h2,h3⟩:=zB h
     exact⟨h1,h3,fun s g x h=>by rw[h2] at h;cases h⟩
    ·cases h
  ·split at h
   ·split at h
    ·simp only[Option.some.injEq] at h;subst h;exact⟨rfl,fun d x h=>by simp at h,fun s g x h=>by simp at h⟩
    ·cases h
   ·cases h
  ·split at h
   ·split at h
    ·simp only[Option.some.injEq] at h;subst h;exact⟨rfl,fun d x h=>by simp at h,fun s g x h=>by simp at h⟩
    ·cases h
   ·cases h
  ·split at h
   ·split at h
    ·simp only[Option.some.injEq] at h;subst h;exact⟨rfl,fun d x h=>by simp at h,fun s g x h=>by simp at h⟩
    ·cases h
   ·cases h
  ·rename_i hc;cases dst with
   | none=>simp[cT] at h
   | some d =>
     simp only[cT] at h;split at h
     ·rename_i s x T T' hx hT
      split at h
      ·split at h
       ·cases nH:nX P st T (st.ev s) (st.ev x) with
        | none=>simp[nH] at h
        | some u =>
        simp only[nH,Option.map_some,Option.some.injEq] at h;subst h;refine⟨rfl,nofun,fun s' g' x' hu=>?_⟩
        simp only[Option.some.injEq,Prod.mk.injEq] at hu;obtain⟨rfl,rfl,rfl⟩:=hu
        obtain⟨n0,At⟩:=BC nH
        refine⟨?_,s, ?_,.inr (.inr (.inr (.inr ⟨0,n0,At⟩)))⟩
        ·obtain⟨callee,args,tR⟩:=c
         simp only at hc hx
         subst hc;simp only[mR,hx];cases s with
         | const v =>
           simp[St.ev] at At
         | _=>rfl
        ·simp only[Op.operands,Call.operands,hc];simp
         rw[← Array.mem_toList_iff,hx];simp
       split at h
       ·simp only[Option.some.injEq] at h;subst h;exact⟨rfl,nofun,nofun⟩
       cases nH:dH P st T (st.ev s) (st.ev x) with
       | none=>simp[nH] at h
       | some ur =>
         obtain⟨u,r⟩:=ur
         simp only[nH,Option.some.injEq] at h;subst h;refine⟨rfl,fun d x h=>by simp at h;rw[h.1],fun s' g' x' hu=>?_⟩
         simp only[Option.map_eq_some_iff] at hu;obtain⟨⟨s2,g2⟩,hu1,hu2⟩:=hu
         simp only[Prod.mk.injEq] at hu2;obtain⟨rfl,rfl,rfl⟩:=hu2
         subst hu1;have At:st.ev s=.own s2 g2:=by
          unfold dH at nH;split at nH
          ·split at nH
           ·split at nH
            ·split at nH
             ·split at nH<;>simp at nH
             ·rename_i s3 g3 hs3;split at nH
              ·split at nH
               ·simp only[Option.some.injEq,Prod.mk.injEq] at nH;obtain⟨⟨rfl,rfl⟩,_⟩:=nH
                exact hs3
               ·cases nH
              ·cases nH
             ·split at nH<;>simp at nH
             ·cases nH
            ·cases nH
           ·cases nH
          ·cases nH
         refine⟨?_,s, ?_,.inr (.inl At)⟩
         ·obtain⟨callee,args,tR⟩:=c
          simp only at hc hx
          subst hc;simp only[mR,hx];cases s with
          | const v =>
            simp[St.ev] at At
          | _=>rfl
         ·simp only[Op.operands,Call.operands,hc];simp
          rw[← Array.mem_toList_iff,hx];simp
      ·cases h
     ·cases h
  ·rename_i hc;split at h
   ·rename_i x T hx hT;cases nH:sE P st T (st.ev x) with
    | none=>simp[nH] at h
    | some u =>
      simp only[nH,Option.map_some,Option.some.injEq] at h;subst h;refine⟨rfl,nofun,fun s' g' x' hu=>?_⟩
      simp only[Option.map_eq_some_iff,Prod.mk.injEq] at hu;obtain⟨p,rfl,rfl,rfl,_⟩:=hu
      obtain⟨o,n,At⟩:=K2 nH
      refine⟨?_,x, ?_,.inr (.inr (.inr (.inr ⟨o,n,At⟩)))⟩
      ·obtain⟨callee,args,tR⟩:=c
       simp only at hc
       subst hc;rfl
      ·simp only[Op.operands,Call.operands,hc];simp
       rw[← Array.mem_toList_iff,hx];simp
   ·cases h
  ·cases h
 case store T x y =>
  simp only[dP] at h;cases hs:qA P st T (st.ev x) (st.ev y) with
  | none=>simp[hs] at h
  | some u =>
    obtain⟨s,g,e'⟩:=u
    simp only[hs,Option.map_some,Option.some.injEq] at h;subst h;refine⟨rfl,fun d x h=>by simp at h,fun s' g' x' hu=>⟨rfl,x,by simp[Op.operands],.inl ?_⟩⟩
    simp only[Option.some.injEq,Prod.mk.injEq] at hu;obtain⟨rfl,rfl,_⟩:=hu
    unfold qA at hs;split at hs
    ·rename_i s1 g1 o1 hp;refine⟨o1, ?_⟩
     rw[hp];split at hs
     ·split at hs
      ·split at hs
       ·split at hs
        ·simp only[Option.some.injEq,Prod.mk.injEq] at hs;rw[hs.1,hs.2.1]
        ·cases hs
       ·split at hs
        ·simp only[Option.some.injEq,Prod.mk.injEq] at hs;rw[hs.1,hs.2.1]
        ·cases hs
       ·cases hs
      ·cases hs
     ·cases hs
    ·cases hs
 case alloc T =>
  simp only[dP] at h;cases dst with
  | none=>simp[cT] at h
  | some d=>cases hz:eH P T with
    | none=>simp[hz,cT] at h
    | some z=>simp only[hz,cT,Option.some.injEq] at h;subst h;exact⟨rfl,fun d x h=>by simp at h;rw[h.1],fun s g x h=>by simp at h⟩
 case box T x =>
  simp only[dP] at h;cases dst with
  | none=>simp[cT] at h
  | some d =>
    simp only[cT] at h;split at h
    ·simp only[Option.some.injEq] at h;subst h;exact⟨rfl,fun d x h=>by simp at h;rw[h.1],fun s g x h=>by simp at h⟩
    ·cases h
 case buildSlice T n parts =>
  simp only[dP] at h;cases dst with
  | none=>simp[cT] at h
  | some d=>cases hs:dT P T with
    | none=>simp[hs,cT] at h
    | some t=>cases hz:eH P t.1 with
      | none=>simp[hs,hz,cT] at h
      | some z =>
        simp only[hs,hz,cT] at h;split at h
        ·cases hf:gT (fun i=>some (i * t.2.1,t.2.1)) ((List.range n).flatMap fun _=>z.map .v) (parts.toList.map fun p=>(p.1,st.ev p.2)) with
         | none=>simp[hf] at h
         | some cs=>simp only[hf,Option.some.injEq] at h;subst h;exact⟨rfl,fun d x h=>by simp at h;rw[h.1],fun s g x h=>by simp at h⟩
        ·cases h
 case makeSlice T l c =>
  simp only[dP] at h;cases dst with
  | none=>simp[cT] at h
  | some d=>cases hs:dT P T with
    | none=>simp[hs,cT] at h
    | some t=>cases hz:eH P t.1 with
      | none=>simp[hs,hz,cT] at h
      | some z =>
        simp only[hs,hz,cT] at h;split at h
        ·split at h
         ·simp only[Option.some.injEq] at h;subst h;exact⟨rfl,fun d x h=>by simp at h;rw[h.1],fun s g x h=>by simp at h⟩
         ·cases h
        ·cases h
 case makeMap T r =>
  cases r with
  | none =>
    simp only[dP] at h;cases dst with
    | none=>simp[cT] at h
    | some d=>simp only[cT,Option.some.injEq] at h;subst h;exact⟨rfl,fun d x h=>by simp at h;rw[h.1],fun s g x h=>by simp at h⟩
  | some r =>
    simp only[dP] at h;obtain⟨h1,h2,h3⟩:=val _ h
    exact⟨h1,h2,fun s g x hu=>absurd hu (h3 s g x)⟩
 case mapUpdate T m x y =>
  simp only[dP] at h;cases hs:uA P st T (st.ev m) (st.ev x) (st.ev y) with
  | none=>simp[hs] at h
  | some u =>
    obtain⟨s,g,e'⟩:=u
    simp only[hs,Option.map_some,Option.some.injEq] at h;subst h;refine⟨rfl,fun d x h=>by simp at h,fun s' g' x' hu=>⟨rfl,m,by simp[Op.operands],.inr (.inr (.inl ?_))⟩⟩
    simp only[Option.some.injEq,Prod.mk.injEq] at hu;obtain⟨rfl,rfl,_⟩:=hu
    unfold uA at hs;split at hs
    ·rename_i s1 g1 hp;rw[hp];split at hs
     ·split at hs
      ·simp only[Option.some.injEq,Prod.mk.injEq] at hs;rw[hs.1,hs.2.1]
      ·cases hs
     ·cases hs
    ·cases hs
 all_goals
  simp only[dP] at h;obtain⟨h1,h2,h3⟩:=val _ h
  exact⟨h1,h2,fun s g x hu=>absurd hu (h3 s g x)⟩
noncomputable def sB (P:Program) (call:Nat→List AV→Option AV) (ops:Array Oper) (o:Oper) (st:St):Option rX :=
 match gv ops st o.guard with
 | some b=>if b=true then dP P call o st else some { dst:=o.dst,val:=.v undef }
 | none=>none
theorem Gn (o:Oper):cH P call ops o st=(sB P call ops o st).map fun e=>e.apply st:=by
 unfold cH sB;cases gv ops st o.guard with
 | none=>rfl
 | some b=>cases b<;>rfl
theorem oZ {o:Oper} {e:rX} (h:sB P call ops o st=some e) :
 e.dst=o.dst∧(∀d x,e.new=some (d,x)→o.dst=some d)∧(∀s g x,e.dS=some (s,g,x)→mR ops o=3∧∃p∈o.op.operands,(∃off,st.ev p=.ptr s g off)∨st.ev p=.own s g∨st.ev p=.mp s g∨(∃cs,st.ev p=.agg cs∧.own s g∈cs)∨∃o n,st.ev p=.vw s g o n):=by
 unfold sB at h;split at h
 ·split at h
  ·exact QY h
  ·simp only[Option.some.injEq] at h;subst h;exact⟨rfl,fun d x h=>by simp at h,fun s g x h=>by simp at h⟩
 ·cases h
theorem Wa (hp:EG st) {x y:Oper} {ex:rX} (nH:sQ ops x y=true∨sQ ops y x=true) (Ns:∀t,mP st.aU (st.env t)) (hx:sB P call ops x st=some ex) :
 sB P call ops y (ex.apply st)=sB P call ops y st:=by
 obtain⟨sd,sn,su⟩:=oZ hx
 have B4:(∀d,x.dst=some d→d ∉ y.looksAt ops)∧(∀d,x.dst=some d→y.dst≠some d):=by
  rcases nH with h|h
  ·simp only[sQ,Bool.and_eq_true] at h;obtain⟨h1,h2,_⟩:=Oper.apart_spec h.1
   exact⟨h1,h2⟩
  ·simp only[sQ,Bool.and_eq_true] at h;obtain⟨_,h2,h3⟩:=Oper.apart_spec h.1
   exact⟨h3,fun d hd hy=>h2 d hy hd⟩
 have henv:∀t,t∈y.looksAt ops→(ex.apply st).env t=st.env t:=fun t ht=>by
  rw[oQ,if_neg];intro h;rw[sd] at h;exact B4.1 t h ht
 have DM:∀p∈y.op.operands,(ex.apply st).ev p=st.ev p:=fun p hp=>by
  cases p with
  | tmp t=>exact henv t (by unfold Oper.looksAt;exact List.mem_append_left _ (List.mem_filterMap.2 ⟨.tmp t,by simpa using hp,rfl⟩))
  | _=>rfl
 have hgv:gv ops (ex.apply st) y.guard=gv ops st y.guard:=aAI fun j want d hg hd=>henv d (by
  unfold Oper.looksAt;apply List.mem_append_right
  rw[hg];simp[hd])
 have hcnt:∀d,y.dst=some d→(ex.apply st).aU d=st.aU d:=fun d hd=>by
  rw[lM];split
  ·rename_i d' z hn
   have:=sn d' z hn
   rw[if_neg];rintro rfl
   exact B4.2 d this hd
  ·rfl
 have Wx:∀p∈y.op.operands,mP st.aU (st.ev p):=fun p hp=>by
  cases p with
  | tmp t=>exact Ns t
  | const v=>exact⟨⟨fun _ _=>False,fun _ _=>undef,st.aU⟩,v,rfl,.v v⟩
  | global g=>exact⟨⟨fun _ _=>False,fun _ _=>undef,st.aU⟩,_,rfl,.v _⟩
  | func f=>exact⟨⟨fun _ _=>False,fun _ _=>undef,st.aU⟩,_,rfl,.v _⟩
 have qH:dP P call y (ex.apply st)=dP P call y st:=by
  by_cases h3:mR ops x=3
  ·refine KQ (ops:=ops) ?_ DM hcnt
   have hle:mR ops y=0∨mR ops y=1∨mR ops y=2∨mR ops y=3∨mR ops y=4:=by
    unfold mR;split<;>(try split)<;>(try split)<;>(try split)<;>simp
   rcases nH with h|h<;>simp only[sQ,Bool.and_eq_true,h3] at h<;>rcases hle with e|e|e|e|e<;>simp[e] at h ⊢
  ·have hnu:ex.dS=none:=by
    cases hu:ex.dS with
    | none=>rfl
    | some sgx=>exact absurd (su sgx.1 sgx.2.1 sgx.2.2 hu).1 h3
   refine QX hp DM Wx (fun s g bA=>?_) hcnt
   rw[tD,hnu];split
   ·rename_i d z hn;rw[if_neg];rintro⟨rfl,h,_⟩
    omega
   ·rfl
 unfold sB;rw[hgv,qH]
theorem KR {o:Oper} {e:rX} {s g:Nat} {z:Option nP} (Ns:∀t,mP st.aU (st.env t)) (h:sB P call ops o st=some e) (hu:e.dS=some (s,g,z)):g<st.aU s:=by
 obtain⟨_,_,su⟩:=oZ h
 obtain⟨_,p,hp,hv⟩:=su s g z hu
 have Wx:mP st.aU (st.ev p):=by
  cases p with
  | tmp t=>exact Ns t
  | const v=>exact⟨⟨fun _ _=>False,fun _ _=>undef,st.aU⟩,v,rfl,.v v⟩
  | global g=>exact⟨⟨fun _ _=>False,fun _ _=>undef,st.aU⟩,_,rfl,.v _⟩
  | func f=>exact⟨⟨fun _ _=>False,fun _ _=>undef,st.aU⟩,_,rfl,.v _⟩
 rcases hv with ⟨off,hv⟩|hv|hv|⟨cs,hv,hm⟩|⟨o,n,hv⟩
 ·rw[hv] at Wx;exact Wx.ptr
 ·rw[hv] at Wx;exact Wx.own
 ·rw[hv] at Wx;exact Wx.mp
 ·rw[hv] at Wx;exact (Wx.agg _ hm).own
 ·rw[hv] at Wx;exact Wx.vw
theorem aDB (hp:EG st) {x y:Oper} (nH:sQ ops x y=true) (Ns:∀t,mP st.aU (st.env t)) {s1 s2:St} (hx:cH P call ops x st=some s1) (hy:cH P call ops y s1=some s2) :
 ∃s3,cH P call ops y st=some s3∧cH P call ops x s3=some s2:=by
 rw[Gn] at hx hy;cases hex:sB P call ops x st with
 | none=>simp[hex] at hx
 | some ex =>
   simp only[hex,Option.map_some,Option.some.injEq] at hx;subst hx;rw[Wa hp (.inl nH) Ns hex] at hy;cases B5:sB P call ops y st with
   | none=>simp[B5] at hy
   | some ey =>
     simp only[B5,Option.map_some,Option.some.injEq] at hy;subst hy;refine⟨ey.apply st,by rw[Gn,B5];rfl, ?_⟩
     rw[Gn,Wa hp (.inr nH) Ns B5,hex];simp only[Option.map_some,Option.some.injEq];obtain⟨dx,nx,ux⟩:=oZ hex
     obtain⟨dy,ny,uy⟩:=oZ B5
     have hd:∀d,x.dst=some d→y.dst≠some d:=by
      simp only[sQ,Bool.and_eq_true] at nH;exact (Oper.apart_spec nH.1).2.1
     have Ac:¬(ex.dS≠none∧ey.dS≠none):=by
      rintro⟨h1,h2⟩
      cases hu:ex.dS with
      | none=>exact h1 hu
      | some a=>cases hv:ey.dS with
        | none=>exact h2 hv
        | some b =>
          have e1:=(ux a.1 a.2.1 a.2.2 hu).1
          have e2:=(uy b.1 b.2.1 b.2.2 hv).1
          simp[sQ,e1,e2] at nH
     apply aAJ
     ·funext t
      rw[oQ,oQ,oQ,oQ,dx,dy];by_cases h1:x.dst=some t
      ·rw[if_pos h1,if_pos h1,if_neg (hd t h1)]
      ·rw[if_neg h1,if_neg h1]
     ·funext s g
      rw[tD,tD,tD,tD];have cx:∀d z,ey.new=some (d,z)→(ex.apply st).aU d=st.aU d:=fun d z hn=>by
       rw[lM];split
       ·rename_i d' z' Hu
        rw[if_neg];rintro rfl
        exact hd _ (nx _ _ Hu) (ny _ _ hn)
       ·rfl
      have cy:∀d z,ex.new=some (d,z)→(ey.apply st).aU d=st.aU d:=fun d z hn=>by
       rw[lM];split
       ·rename_i d' z' Hu
        rw[if_neg];rintro rfl
        exact hd _ (nx _ _ hn) (ny _ _ Hu)
       ·rfl
      cases K3:ex.new with
      | none =>
        cases VB:ey.new with
        | none =>
          cases hux:ex.dS with
          | none=>rfl
          | some a=>cases huy:ey.dS with
            | none=>rfl
            | some b=>exact absurd ⟨by rw[hux];simp,by rw[huy];simp⟩ Ac
        | some b =>
          obtain⟨d,z⟩:=b
          simp only[cx d z VB];cases hux:ex.dS with
          | none=>rfl
          | some a =>
            obtain⟨s0,g0,e0⟩:=a
            have bA:=KR Ns hex hux
            cases huy:ey.dS with
            | none =>
              simp only
              by_cases h1:s=d∧st.aU d≤g∧g-st.aU d<z.length
              ·rw[if_neg (by obtain⟨rfl,ha,hb⟩:=h1;rintro⟨rfl,rfl⟩;omega),if_pos h1,if_pos h1]
              ·rw[if_neg h1,if_neg h1]
            | some b=>exact absurd ⟨by rw[hux];simp,by rw[huy];simp⟩ Ac
      | some a =>
        obtain⟨d,z⟩:=a
        cases VB:ey.new with
        | none =>
          simp only[cy d z K3];cases huy:ey.dS with
          | none=>rfl
          | some a =>
            obtain⟨s0,g0,e0⟩:=a
            have bA:=KR Ns B5 huy
            cases hux:ex.dS with
            | none =>
              simp only
              by_cases h1:s=d∧st.aU d≤g∧g-st.aU d<z.length
              ·rw[if_pos h1,if_neg (by obtain⟨rfl,ha,hb⟩:=h1;rintro⟨rfl,rfl⟩;omega),if_pos h1]
              ·rw[if_neg h1,if_neg h1]
            | some b=>exact absurd ⟨by rw[hux];simp,by rw[huy];simp⟩ Ac
        | some b =>
          obtain⟨d',z'⟩:=b
          simp only[cy d z K3,cx d' z' VB];have K4:d≠d':=by
           rintro rfl
           exact hd _ (nx _ _ K3) (ny _ _ VB)
          cases hux:ex.dS with
          | none =>
            cases huy:ey.dS with
            | none =>
              simp only
              by_cases h1:s=d∧st.aU d≤g∧g-st.aU d<z.length
              ·rw[if_pos h1,if_pos h1,if_neg (fun h=>K4 (h1.1.symm.trans h.1))]
              ·rw[if_neg h1,if_neg h1]
            | some b =>
              obtain⟨s0,g0,e0⟩:=b
              have bA:=KR Ns B5 huy
              simp only
              by_cases h1:s=d∧st.aU d≤g∧g-st.aU d<z.length
              ·rw[if_pos h1,if_pos h1,if_neg (fun h=>K4 (h1.1.symm.trans h.1)),if_neg (by obtain⟨rfl,ha,hb⟩:=h1;rintro⟨rfl,rfl⟩;omega)]
              ·rw[if_neg h1,if_neg h1]
          | some a =>
            obtain⟨s0,g0,e0⟩:=a
            have bA:=KR Ns hex hux
            cases huy:ey.dS with
            | none =>
              simp only
              by_cases h1:s=d∧st.aU d≤g∧g-st.aU d<z.length
              ·rw[if_pos h1,if_pos h1,if_neg (fun h=>K4 (h1.1.symm.trans h.1))]
              ·rw[if_neg h1,if_neg h1];by_cases h2:s=d'∧st.aU d'≤g∧g-st.aU d'<z'.length
               ·rw[if_pos h2,if_neg (by obtain⟨rfl,ha,hb⟩:=h2;rintro⟨rfl,rfl⟩;omega),if_pos h2]
               ·rw[if_neg h2,if_neg h2]
            | some b=>exact absurd ⟨by rw[hux];simp,by rw[huy];simp⟩ Ac
     ·funext s
      cases K3:ex.new with
      | none=>cases VB:ey.new<;>simp only[lM,K3,VB]
      | some a =>
        obtain⟨d,z⟩:=a
        cases VB:ey.new with
        | none=>simp only[lM,K3,VB]
        | some b =>
          obtain⟨d',z'⟩:=b
          have K4:d≠d':=by
           rintro rfl
           exact hd _ (nx _ _ K3) (ny _ _ VB)
          simp only[lM,K3,VB];rw[if_neg K4,if_neg (Ne.symm K4)];by_cases h1:s=d
          ·subst h1;rw[if_neg K4,if_pos rfl,if_neg K4]
          ·rw[if_neg h1,if_neg h1]
def Jj (st st':St) (x:AV):Prop:=∀s g,keyOf x=some (some (s,g))→st'.heap s g=st.heap s g
theorem XW {x:AV} (h:Jj st st' x):qO st' x=qO st x:=by
 cases x<;>simp only[qO]
 rw[h _ _ rfl]
theorem wS {x:AV} (h:Jj st st' x):aX st' x=aX st x:=by
 cases x
 case own=>simp only[aX,h _ _ rfl]
 case vw=>simp only[aX,h _ _ rfl]
 case v y =>
  cases y
  case slice p n c=>cases p<;>cases n<;>cases c<;>rfl
  all_goals rfl
 all_goals rfl
theorem BD {T:Nat} {x i:AV} (h:Jj st st' x):bH P st' T x i=bH P st T x i:=by
 unfold bH;cases x<;>try rfl
 simp only[h _ _ rfl]
theorem XX {T:Nat} {x y:AV} (h:Jj st st' x):qA P st' T x y=qA P st T x y:=by
 unfold qA;cases x<;>try rfl
 simp only[h _ _ rfl]
theorem XY {T:Nat} {x:AV} {lo hi:Option Operand} (hx:Jj st st' x) (hl:∀p,lo=some p→st'.ev p=st.ev p) (Dr:∀p,hi=some p→st'.ev p=st.ev p):dB P st' T x lo hi=dB P st T x lo hi :=
 BA (fun s g h=>by
  rcases h with ⟨o,rfl⟩|rfl|⟨o,n,rfl⟩<;>exact hx _ _ rfl) hl Dr
theorem QZ {T:Nat} {s x:AV} (hs:Jj st st' s) (hx:Jj st st' x):dH P st' T s x=dH P st T s x:=by
 unfold dH;rw[wS hx];cases s
 case own=>simp only[hs _ _ rfl]
 case v y =>
  cases y
  case slice p n c=>cases p<;>cases n<;>cases c<;>rfl
  all_goals rfl
 all_goals rfl
theorem RA {T:Nat} {s x:AV} (hs:Jj st st' s) (hx:Jj st st' x):nX P st' T s x=nX P st T s x:=by
 unfold nX;rw[wS hx];cases dT P T with
 | none=>rfl
 | some t=>cases aX st x with
   | none=>rfl
   | some mn =>
     cases s<;>try rfl
     case vw s g o n =>
      cases o with
      | zero=>simp only[hs _ _ rfl]
      | succ o=>rfl
theorem XZ {r:AV} {dst:Option Nat} (hc:∀d,dst=some d→st'.aU d=st.aU d):jD r st' dst=jD r st dst:=by
 unfold jD;cases dst with
 | none=>rfl
 | some d=>simp only[hc d rfl]
theorem YA {g:Nat} {x:AV} {args:List AV} {dst:Option Nat} (hx:Jj st st' x) (hc:∀d,dst=some d→st'.aU d=st.aU d):lN call g (x :: args) st' dst=lN call g (x :: args) st dst:=by
 unfold lN;split
 ·rename_i s k rest heq;simp only[List.cons.injEq] at heq;obtain⟨rfl,rfl⟩:=heq
  rw[hx _ _ rfl];cases dst with
  | none=>rfl
  | some d=>simp only[hc d rfl]
 ·split
  ·rename_i hf;unfold aO;rw[if_pos hf,if_pos hf];have h2:∀r,jD r st' dst=jD r st dst:=fun r=>XZ hc
   simp only[h2]
  ·rfl
theorem EO {o:Oper} {aS:List Nat} (h:iA o=some aS):o.guard=none:=by
 unfold iA at h;split at h
 ·cases h
 ·assumption
theorem KS {o:Oper} {aS:List Nat} (ha:iA o=some aS):sB P call ops o st=dP P call o st:=by
 unfold sB;rw[EO ha];rfl
inductive Wb:Op→List Nat→Prop
 | load (T a:Nat):Wb (.load T (.tmp a)) [a]
 | store (T a:Nat) (x:Operand):Wb (.store T (.tmp a) x) [a]
 | indexAddr (T a:Nat) (x:Operand):Wb (.indexAddr T (.tmp a) x) [a]
 | slice (T a:Nat) (lo hi mx:Option Operand):Wb (.slice T (.tmp a) lo hi mx) [a]
 | len (a:Nat) (args:Array Operand) (tR:Array Nat) (h:args.toList=[.tmp a]):Wb (.call ⟨.builtin .len,args,tR⟩) [a]
 | append (a b:Nat) (args:Array Operand) (tR:Array Nat) (h:args.toList=[.tmp a,.tmp b]):Wb (.call ⟨.builtin .append,args,tR⟩) [a,b]
 | mv (g a:Nat) (r:List Operand) (args:Array Operand) (tR:Array Nat) (h:args.toList=.tmp a :: r) (hg:Ext.mv g=true):Wb (.call ⟨.value (.func g),args,tR⟩) [a]
theorem Ri {o:Oper} {aS:List Nat} (h:iA o=some aS):Wb o.op aS:=by
 unfold iA at h;split at h
 ·cases h
 ·split at h
  ·rename_i T a ho;simp only[Option.some.injEq] at h;subst h;rw[ho];exact .load T a
  ·rename_i T a x ho;simp only[Option.some.injEq] at h;subst h;rw[ho];exact .store T a x
  ·rename_i T a x ho;simp only[Option.some.injEq] at h;subst h;rw[ho];exact .indexAddr T a x
  ·rename_i T a lo hi mx ho;simp only[Option.some.injEq] at h;subst h;rw[ho];exact .slice T a lo hi mx
  ·rename_i args tR ho;split at h
   ·rename_i a hl;simp only[Option.some.injEq] at h;subst h;rw[ho];exact .len a args tR hl
   ·cases h
  ·rename_i args tR ho;split at h
   ·rename_i a b hl;simp only[Option.some.injEq] at h;subst h;rw[ho];exact .append a b args tR hl
   ·cases h
  ·rename_i g args tR ho;split at h
   ·rename_i a r hl;split at h
    ·rename_i hg;simp only[Option.some.injEq] at h;subst h;rw[ho];exact .mv g a r args tR hl hg
    ·cases h
   ·cases h
  ·cases h
theorem K5 {T s g:Nat} {p x:AV} {e':nP} (hs:qA P st T p x=some (s,g,e')):∃o,p=.ptr s g o:=by
 unfold qA at hs;split at hs
 ·rename_i s1 g1 o1;split at hs
  ·split at hs
   ·split at hs
    ·split at hs
     ·simp only[Option.some.injEq,Prod.mk.injEq] at hs;obtain⟨rfl,rfl,_⟩:=hs;exact⟨_,rfl⟩
     ·cases hs
    ·split at hs
     ·simp only[Option.some.injEq,Prod.mk.injEq] at hs;obtain⟨rfl,rfl,_⟩:=hs;exact⟨_,rfl⟩
     ·cases hs
    ·cases hs
   ·cases hs
  ·cases hs
 ·cases hs
theorem YB {T s g:Nat} {p x:AV} {r:nP} (nH:dH P st T p x=some (some (s,g),r)):p=.own s g:=by
 unfold dH at nH;split at nH
 ·split at nH
  ·split at nH
   ·split at nH
    ·split at nH<;>simp at nH
    ·rename_i s3 g3;split at nH
     ·split at nH
      ·simp only[Option.some.injEq,Prod.mk.injEq] at nH;obtain⟨⟨rfl,rfl⟩,_⟩:=nH
       rfl
      ·cases nH
     ·cases nH
    ·split at nH<;>simp at nH
    ·cases nH
   ·cases nH
  ·cases nH
 ·cases nH
theorem Uf {o:Oper} {aS:List Nat} {e:rX} (ha:iA o=some aS) (h:sB P call ops o st=some e) :
 ∀s g z,e.dS=some (s,g,z)→∃a∈aS,keyOf (st.env a)=some (some (s,g)):=by
 rw[KS ha] at h;have hk:=Ri ha
 clear ha
 obtain⟨dst,op,type,pos,after,guard⟩:=o
 have val:∀(v:Option AV),(v.map fun x=>({ dst:=dst,val:=x }:rX))=some e→e.dS=none:=fun v hv=>by
  cases v with
  | none=>cases hv
  | some v=>simp only[Option.map_some,Option.some.injEq] at hv;subst hv;rfl
 intro s g z hu;cases hk
 case load T a=>simp only[dP] at h;rw[val _ h] at hu;cases hu
 case indexAddr T a x=>simp only[dP] at h;rw[val _ h] at hu;cases hu
 case slice T a lo hi mx=>simp only[dP] at h;rw[val _ h] at hu;cases hu
 case len a args tR hl =>
  simp only[dP,iS,hl] at h;split at h
  ·split at h
   ·simp only[Option.some.injEq] at h;subst h;cases hu
   ·cases h
  ·cases h
 case store T a x =>
  simp only[dP] at h;cases hs:qA P st T (st.ev (.tmp a)) (st.ev x) with
  | none=>simp[hs] at h
  | some u =>
    obtain⟨s',g',e'⟩:=u
    simp only[hs,Option.map_some,Option.some.injEq] at h;subst h;simp only[Option.some.injEq,Prod.mk.injEq] at hu;obtain⟨rfl,rfl,_⟩:=hu
    obtain⟨o1,ho1⟩:=K5 hs
    exact⟨a,by simp,by rw[show st.env a=st.ev (.tmp a) from rfl,ho1];rfl⟩
 case append a b args tR hl =>
  simp only[dP,iS,hl] at h;cases dst with
  | none=>simp[cT] at h
  | some d =>
    simp only[cT] at h;split at h
    ·rename_i s0 x0 T T' heq _
     simp only[List.cons.injEq,and_true] at heq;obtain⟨rfl,rfl⟩:=heq
     split at h
     ·split at h
      ·cases nH:nX P st T (st.ev (.tmp a)) (st.ev (.tmp b)) with
       | none=>simp[nH] at h
       | some u =>
       simp only[nH,Option.map_some,Option.some.injEq] at h;subst h;simp only[Option.some.injEq,Prod.mk.injEq] at hu;obtain⟨rfl,rfl,rfl⟩:=hu
       obtain⟨n0,At⟩:=BC nH
       exact⟨a,by simp,by rw[show st.env a=st.ev (.tmp a) from rfl,At];rfl⟩
      split at h
      ·simp only[Option.some.injEq] at h;subst h;cases hu
      cases nH:dH P st T (st.ev (.tmp a)) (st.ev (.tmp b)) with
      | none=>simp[nH] at h
      | some ur =>
        obtain⟨u,r⟩:=ur
        simp only[nH,Option.some.injEq] at h;subst h;cases u with
        | none=>cases hu
        | some p =>
          simp only[Option.map_some,Option.some.injEq,Prod.mk.injEq] at hu;obtain⟨rfl,rfl,_⟩:=hu
          exact⟨a,by simp,by rw[show st.env a=st.ev (.tmp a) from rfl,YB nH];rfl⟩
     ·cases h
    ·cases h
 case mv g' a r args tR hl hg =>
  simp only[dP,iS,nY] at h;rw[if_pos hg] at h;obtain⟨_,_,h3⟩:=Rh h
  have:=h3 s g z hu
  rw[hl] at this;simp only[List.map_cons,List.head?_cons,Option.some.injEq,St.ev] at this;exact⟨a,by simp,by rw[this];rfl⟩
theorem mem_congr {o:Oper} {aS:List Nat} (ha:iA o=some aS) (DM:∀p∈o.op.operands,st'.ev p=st.ev p) (hh:∀a∈aS,Jj st st' (st.env a)) (hc:∀d,o.dst=some d→st'.aU d=st.aU d) :
 sB P call ops o st'=sB P call ops o st:=by
 rw[KS ha,KS ha];have hk:=Ri ha
 clear ha
 obtain⟨dst,op,type,pos,after,guard⟩:=o
 simp only at hk DM hc
 cases hk
 case load T a =>
  have h1:st'.env a=st.env a:=DM (.tmp a) (by simp[Op.operands])
  simp only[dP,iX,St.ev,h1,XW (hh a (by simp))]
 case store T a x =>
  have h1:st'.env a=st.env a:=DM (.tmp a) (by simp[Op.operands])
  have h2:=DM x (by simp[Op.operands])
  have h3:st'.ev (.tmp a)=st.ev (.tmp a):=h1
  simp only[dP,h2,h3];rw[show st.ev (.tmp a)=st.env a from rfl,XX (hh a (by simp))]
 case indexAddr T a x =>
  have h1:st'.env a=st.env a:=DM (.tmp a) (by simp[Op.operands])
  have h2:=DM x (by simp[Op.operands])
  have h3:st'.ev (.tmp a)=st.ev (.tmp a):=h1
  simp only[dP,iX,h2,h3];rw[show st.ev (.tmp a)=st.env a from rfl,BD (hh a (by simp))]
 case slice T a lo hi mx =>
  have h1:st'.env a=st.env a:=DM (.tmp a) (by simp[Op.operands])
  have h3:st'.ev (.tmp a)=st.ev (.tmp a):=h1
  have hl:∀p,lo=some p→st'.ev p=st.ev p:=fun p hp=>DM p (by subst hp;simp[Op.operands])
  have Dr:∀p,hi=some p→st'.ev p=st.ev p:=fun p hp=>DM p (by subst hp;simp[Op.operands])
  have hm:∀p,mx=some p→st'.ev p=st.ev p:=fun p hp=>DM p (by subst hp;simp[Op.operands])
  have hS:=XY (P:=P) (T:=T) (hh a (by simp)) hl Dr
  cases mx with
  | none =>
    simp only[dP,iX,h3];rw[show st.ev (.tmp a)=st.env a from rfl,hS]
  | some m =>
    cases hi with
    | none=>rfl
    | some h =>
      simp only[dP,iX,h3];rw[Vz (fun s g hx=>hh a (by simp) s g (by rw[show st.env a=st.ev (.tmp a) from rfl,hx];rfl)) hl (Dr h rfl) (hm m rfl)]
 case len a args tR hl =>
  have h1:st'.env a=st.env a:=DM (.tmp a) (by simp[Op.operands,Call.operands,← Array.mem_toList_iff,hl])
  have h3:st'.ev (.tmp a)=st.ev (.tmp a):=h1
  have hv:aX st' (st'.ev (.tmp a))=aX st (st.ev (.tmp a)):=by rw[h3];exact wS (hh a (by simp))
  simp only[dP,iS,hl];cases tR.toList with
  | nil=>rfl
  | cons T r=>cases r with
    | nil=>simp only[hv]
    | cons _ _=>rfl
 case append a b args tR hl =>
  have h1:st'.ev (.tmp a)=st.ev (.tmp a):=DM (.tmp a) (by simp[Op.operands,Call.operands,← Array.mem_toList_iff,hl])
  have h2:st'.ev (.tmp b)=st.ev (.tmp b):=DM (.tmp b) (by simp[Op.operands,Call.operands,← Array.mem_toList_iff,hl])
  have hV:∀T,nX P st' T (st.ev (.tmp a)) (st.ev (.tmp b))=nX P st T (st.ev (.tmp a)) (st.ev (.tmp b)):=fun T=>RA (hh a (by simp)) (hh b (by simp))
  have hA:∀T,dH P st' T (st.ev (.tmp a)) (st.ev (.tmp b))=dH P st T (st.ev (.tmp a)) (st.ev (.tmp b)):=fun T=>QZ (hh a (by simp)) (hh b (by simp))
  simp only[dP,iS,hl];cases dst with
  | none=>rfl
  | some d =>
    simp only[cT,hc d rfl];cases tR.toList with
    | nil=>rfl
    | cons T r=>cases r with
      | nil=>rfl
      | cons T' r'=>cases r' with
        | nil =>
          have hn:Hy P st' T (st'.ev (.tmp a)) (st'.ev (.tmp b))=Hy P st T (st.ev (.tmp a)) (st.ev (.tmp b)):=by
           have h3:aX st' (st.ev (.tmp b))=aX st (st.ev (.tmp b)):=wS (hh b (by simp))
           simp only[Hy,h1,h2,h3]
          simp only[];rw[hn,h1,h2,hA,hV]
        | cons _ _=>rfl
 case mv g' a r args tR hl hg =>
  have he:∀p∈args.toList,st'.ev p=st.ev p:=fun p hp=>DM p (by simp[Op.operands,Call.operands,← Array.mem_toList_iff,hp])
  have h1:args.toList.map st'.ev=args.toList.map st.ev:=List.map_congr_left he
  simp only[dP,iS,nY];rw[if_pos hg,if_pos hg,h1,hl];simp only[List.map_cons];exact YA (hh a (by simp)) hc
theorem aAL {x y:AV} (h:fK x y∨fK y x) {k k':Nat × Nat} (hx:keyOf x=some (some k)) (hy:keyOf y=some (some k')):k≠k':=by
 unfold fK at h;rw[hx,hy] at h;rcases h with h|h
 ·exact h
 ·exact fun e=>h e.symm
theorem aAM {aU:Nat→Nat} {x:AV} {s g:Nat} (h:mP aU x) (hk:keyOf x=some (some (s,g))):g<aU s:=by
 cases x<;>simp only[keyOf,Option.some.injEq,Prod.mk.injEq,reduceCtorEq] at hk
 ·obtain⟨rfl,rfl⟩:=hk;exact h.ptr
 ·obtain⟨rfl,rfl⟩:=hk;exact h.own
 ·obtain⟨rfl,rfl⟩:=hk;exact h.vw
theorem IB {x y:Oper} {aS bs:List Nat} {ex:rX} (Ns:∀t,mP st.aU (st.env t)) (hax:iA x=some aS) (hay:iA y=some bs) (B4:∀d,x.dst=some d→d ∉ y.looksAt ops) (lH:∀d,x.dst=some d→y.dst≠some d)
 (hf:∀a∈aS,∀b∈bs,fK (st.env a) (st.env b)∨fK (st.env b) (st.env a)) (hx:sB P call ops x st=some ex):sB P call ops y (ex.apply st)=sB P call ops y st:=by
 obtain⟨sd,sn,_⟩:=oZ hx
 have su:=Uf hax hx
 refine mem_congr hay (fun p hp=>?_) (fun b hb s g hk=>?_) fun d hd=>?_
 ·cases p with
  | tmp t =>
    show (ex.apply st).env t=st.env t
    rw[oQ,if_neg];intro h;rw[sd] at h;exact B4 t h (by unfold Oper.looksAt;exact List.mem_append_left _ (List.mem_filterMap.2 ⟨.tmp t,by simpa using hp,rfl⟩))
  | _=>rfl
 ·have bA:=aAM (Ns b) hk
  have hupd:(match ex.dS with|some (s0,g0,y)=>if s=s0∧g=g0 then y else st.heap s g|none=>st.heap s g)=st.heap s g:=by
   cases hu:ex.dS with
   | none=>rfl
   | some u =>
     obtain⟨s0,g0,z⟩:=u
     obtain⟨a,ha,hka⟩:=su s0 g0 z hu
     simp only
     rw[if_neg];rintro⟨rfl,rfl⟩
     exact aAL (hf a ha b hb) hka hk rfl
  rw[tD];split
  ·rename_i d es hn;rw[if_neg (by rintro⟨rfl,h,_⟩;omega)]
   exact hupd
  ·exact hupd
 ·rw[lM];split
  ·rename_i d' z hn
   rw[if_neg];rintro rfl
   exact lH _ (sn _ _ hn) hd
  ·rfl
theorem aAN {α:Type} {A B C D:Prop} [Decidable A] [Decidable B] [Decidable C] [Decidable D] {na nb uc ud h:α} (h1:A→¬B) (h2:A→¬D) (h3:C→¬B) (h4:C→¬D) :
 (if B then nb else if D then ud else if A then na else if C then uc else h)=(if A then na else if C then uc else if B then nb else if D then ud else h):=by
 by_cases a:A
 ·rw[if_neg (h1 a),if_neg (h2 a),if_pos a,if_pos a]
 ·rw[if_neg a,if_neg a];by_cases c:C
  ·rw[if_neg (h3 c),if_neg (h4 c),if_pos c,if_pos c]
  ·rw[if_neg c,if_neg c]
def Ug (e:rX) (aU:Nat→Nat) (s g:Nat):Prop:=∃d es,e.new=some (d,es)∧s=d∧aU d≤g∧g-aU d<es.length
def YC (e:rX) (s g:Nat):Prop:=∃z,e.dS=some (s,g,z)
def Jk (e:rX) (aU:Nat→Nat) (g:Nat):Option nP:=match e.new with|some (d,es)=>es[g-aU d]? | none=>none
def YD (e:rX):Option nP:=match e.dS with|some (_,_,z)=>z|none=>none
theorem Ch (e:rX) (st:St) (s g:Nat):(e.apply st).heap s g=if Ug e st.aU s g then Jk e st.aU g else if YC e s g then YD e else st.heap s g:=by
 have hu:(match e.dS with|some (s0,g0,y)=>if s=s0∧g=g0 then y else st.heap s g|none=>st.heap s g)=if YC e s g then YD e else st.heap s g:=by
  unfold YC YD;cases hu:e.dS with
  | none=>simp
  | some u =>
    obtain⟨s0,g0,z⟩:=u
    simp only
    by_cases h:s=s0∧g=g0
    ·obtain⟨rfl,rfl⟩:=h
     rw[if_pos ⟨rfl,rfl⟩,if_pos ⟨z,rfl⟩]
    ·rw[if_neg h,if_neg];rintro⟨z',h'⟩
     simp only[Option.some.injEq,Prod.mk.injEq] at h'
     exact h ⟨h'.1.symm,h'.2.1.symm⟩
 rw[tD];unfold Ug Jk;cases hn:e.new with
 | none=>simp only;rw[if_neg (by rintro⟨d,es,h,_⟩;cases h)];exact hu
 | some p =>
   obtain⟨d,es⟩:=p
   simp only
   by_cases h:s=d∧st.aU d≤g∧g-st.aU d<es.length
   ·rw[if_pos h,if_pos ⟨d,es,rfl,h⟩]
   ·rw[if_neg h,if_neg]
    ·exact hu
    ·rintro⟨d',es',h',h2⟩
     simp only[Option.some.injEq,Prod.mk.injEq] at h'
     obtain⟨rfl,rfl⟩:=h'
     exact h h2
theorem aAO {x y:Oper} {aS bs:List Nat} (Ns:∀t,mP st.aU (st.env t)) (hax:iA x=some aS) (hay:iA y=some bs) (nH:Oper.apart ops x y=true) (hf:Mz st aS bs) {s1 s2:St} (hx:cH P call ops x st=some s1) (hy:cH P call ops y s1=some s2) :
 ∃s3,cH P call ops y st=some s3∧cH P call ops x s3=some s2:=by
 obtain⟨l1,l2,l3⟩:=Oper.apart_spec nH
 have l2':∀d,y.dst=some d→x.dst≠some d:=fun d hd hx=>l2 d hx hd
 rw[Gn] at hx hy;cases hex:sB P call ops x st with
 | none=>simp[hex] at hx
 | some ex =>
   simp only[hex,Option.map_some,Option.some.injEq] at hx;subst hx;rw[IB Ns hax hay l1 l2 (fun a ha b hb=>.inl (hf a ha b hb)) hex] at hy
   cases B5:sB P call ops y st with
   | none=>simp[B5] at hy
   | some ey =>
     simp only[B5,Option.map_some,Option.some.injEq] at hy;subst hy;refine⟨ey.apply st,by rw[Gn,B5];rfl, ?_⟩
     rw[Gn,IB Ns hay hax l3 l2' (fun b hb a ha=>.inr (hf a ha b hb)) B5,hex]
     simp only[Option.map_some,Option.some.injEq];obtain⟨dx,nx,_⟩:=oZ hex
     obtain⟨dy,ny,_⟩:=oZ B5
     have ux:=Uf hax hex
     have uy:=Uf hay B5
     have cx:∀d z,ey.new=some (d,z)→(ex.apply st).aU d=st.aU d:=fun d z hn=>by
      rw[lM];split
      ·rename_i d' z' Hu
       rw[if_neg];rintro rfl
       exact l2 _ (nx _ _ Hu) (ny _ _ hn)
      ·rfl
     have cy:∀d z,ex.new=some (d,z)→(ey.apply st).aU d=st.aU d:=fun d z hn=>by
      rw[lM];split
      ·rename_i d' z' Hu
       rw[if_neg];rintro rfl
       exact l2 _ (nx _ _ hn) (ny _ _ Hu)
      ·rfl
     apply aAJ
     ·funext t
      rw[oQ,oQ,oQ,oQ,dx,dy];by_cases h1:x.dst=some t
      ·rw[if_pos h1,if_pos h1,if_neg (l2 t h1)]
      ·rw[if_neg h1,if_neg h1]
     ·funext s g
      have nyE:Ug ey (ex.apply st).aU s g↔Ug ey st.aU s g:=by
       constructor
       ·rintro⟨d,es,h,h2⟩;rw[cx d es h] at h2;exact⟨d,es,h,h2⟩
       ·rintro⟨d,es,h,h2⟩;rw[← cx d es h] at h2;exact⟨d,es,h,h2⟩
      have nxE:Ug ex (ey.apply st).aU s g↔Ug ex st.aU s g:=by
       constructor
       ·rintro⟨d,es,h,h2⟩;rw[cy d es h] at h2;exact⟨d,es,h,h2⟩
       ·rintro⟨d,es,h,h2⟩;rw[← cy d es h] at h2;exact⟨d,es,h,h2⟩
      have vyE:Jk ey (ex.apply st).aU g=Jk ey st.aU g:=by
       unfold Jk;cases hn:ey.new with
       | none=>rfl
       | some p=>simp only[cx p.1 p.2 hn]
      have vxE:Jk ex (ey.apply st).aU g=Jk ex st.aU g:=by
       unfold Jk;cases hn:ex.new with
       | none=>rfl
       | some p=>simp only[cy p.1 p.2 hn]
      rw[Ch,Ch,Ch,Ch];simp only[nyE,nxE,vyE,vxE];symm
      have idk:∀a s g,keyOf (st.env a)=some (some (s,g))→g<st.aU s:=fun a s g h=>aAM (Ns a) h
      refine aAN ?_ ?_ ?_ ?_
      ·rintro⟨d,es,h,rfl,_⟩ ⟨d',es',h',rfl,_⟩
       exact l2 _ (nx _ _ h) (ny _ _ h')
      ·rintro⟨d,es,h,rfl,h1,_⟩ ⟨z,h'⟩
       obtain⟨b,_,hb⟩:=uy _ _ _ h'
       have:=idk b _ _ hb
       omega
      ·rintro⟨z,h⟩ ⟨d,es,h',rfl,h1,_⟩
       obtain⟨a,_,ha⟩:=ux _ _ _ h
       have:=idk a _ _ ha
       omega
      ·rintro⟨z,h⟩ ⟨z',h'⟩
       obtain⟨a,ha,hka⟩:=ux _ _ _ h
       obtain⟨b,hb,hkb⟩:=uy _ _ _ h'
       exact aAL (.inl (hf a ha b hb)) hka hkb rfl
     ·funext s
      rw[lM,lM];cases K3:ex.new with
      | none=>cases VB:ey.new<;>simp only[lM,K3,VB]
      | some a =>
        obtain⟨d,z⟩:=a
        cases VB:ey.new with
        | none=>simp only[lM,K3,VB]
        | some b =>
          obtain⟨d',z'⟩:=b
          have K4:d≠d':=by
           rintro rfl
           exact l2 _ (nx _ _ K3) (ny _ _ VB)
          simp only[lM,K3,VB];rw[if_neg K4,if_neg (Ne.symm K4)];by_cases h1:s=d
          ·subst h1;rw[if_neg K4,if_pos rfl,if_neg K4]
          ·rw[if_neg h1,if_neg h1]
end
end Go.Ab
end
