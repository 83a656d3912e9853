/-
  Part 3 of the proof: an evaluator of programs, its soundness, and what functions of this program compute.
-/
import Derived.Test.YtmcjkemalibacaaGreatK2
import Derived.Deep.Upon
set_option linter.all false
set_option maxRecDepth 20000
set_option maxHeartbeats 40000000
section
namespace Go.Ab
open Classical
section
variable {P:Program} {h0:Nat->Obj->Prop} {w0:World} {F:Hx} {nt:Nat} {ρ:Nat->Nat->Value} {st:St} {a:Act} {w:World} {K:Act->World->Prop} {Q:Exit->Act->World->Prop}
theorem Gs {base T ty e:Nat} {ei:TypeInfo} {ez:Value} (hT:P.underlying T=some (.slice e)) (Da:P.info? e=some ei) (Yg:ei.zero=some ez) (Xa:ez.cells.size=ei.size) (Cu:0<ei.size)
 (uU:base<=w.heap.size) {v:Value} {n:Nat} {xs:List Value} (vH:lO w base e ei.size v n xs)
 {p:Option Addr} {m c:Nat} {news:List Value} (hl:news.length=m * ei.size) (ZE:news≠[]->∃ad,p=some ad/\∀(j:Nat) (u:Value),news[j]? = some u->w.cell? (ad.add j)=some u)
 (h1:∀u∈news,u.oneCell'=true) (h63:n+m<=maxLen) (hb:(n+m) * ei.bytes<=140737488355328) :
 ∃v' w',(Builtin.append_ #[T,T] ty #[v,.slice p m c]).run P w=.ok v' w'/\lO w' base e ei.size v' (n+m) (xs++news)/\w.grownBy w' (cM v)/\(∀b,cM v'=some b->cM v=some b\/w.heap.size<=b):=by
 by_cases hm:m=0
 ·subst hm;have hn:news=[]:=List.eq_nil_of_length_eq_zero (by simpa using hl)
  subst hn;refine⟨v,w, ?_,by simpa using vH,⟨rfl,rfl,rfl,Nat.le_refl _,fun _ _ _=>rfl⟩,fun b hb=>.inl hb⟩
  have hfc:∀(x:Value),(∃p,x=.slice p 0 c)->(Builtin.firstCells ei.size 0 x).run P w=.ok #[] w:=by
   rintro x ⟨p,rfl⟩
   cases p<;>simp[Builtin.firstCells,loadCells,loadCellsFrom]
  rcases vH.2 with ⟨q,rfl,rfl⟩|⟨g,cap,cur,rfl,_,_,We,_⟩
  ·cases q<;>simp[Builtin.append_,aW hT,run_sizeOf w Da,Builtin.lenOf,hfc _ ⟨p,rfl⟩,storeCells]
  ·simp[Builtin.append_,aW hT,run_sizeOf w Da,Builtin.lenOf,hfc _ ⟨p,rfl⟩,We,storeCells]
 ·have gI:news≠[]:=by
   intro h;subst h;have:0<m * ei.size:=Nat.mul_pos (by omega) Cu
   simp at hl
   omega
  obtain⟨ad,rfl,CC⟩:=ZE gI
  have hlen:(xs++news).length=(n+m) * ei.size:=by rw[List.length_append,vH.1,hl,Nat.add_mul]
  have grow:∀(ga:Addr) (cap:Nat),cap<n+m->(∀(j:Nat) (u:Value),xs[j]? = some u->w.cell? (ga.add j)=some u)->∃v' w',(Builtin.append_ #[T,T] ty #[.slice (some ga) n cap,.slice (some ad) m c]).run P w=.ok v' w' /\
   lO w' base e ei.size v' (n+m) (xs++news)/\w.grownBy w' none/\∀b,cM v'=some b->w.heap.size<=b:=by
   intro ga cap BV holds;have hr:=run_append_grow (P:=P) w T ty e ei ez hT Da Yg ga n cap xs vH.1 holds ad m c news hl CC (by omega) (by simp only[maxLen] at h63;omega) (growslice_fits (by omega) hb)
   have hge:=grownCap_ge w (n+m) cap e
   have aJk:=grownCap_le_maxLen w (n+m) cap e h63
   refine⟨_,_,hr,⟨hlen,.inr ⟨w.heap.size,_,_,rfl,uU,heap_alloc_new w.drew _,hge,aJk, ?_, ?_,by omega⟩⟩,⟨rfl,rfl,rfl,by simp,fun k hk _=>heap_alloc_old w.drew _ hk⟩,fun b hb=>?_⟩
   ·simp only[Array.size_append,List.size_toArray,size_zeroCells,Xa,vH.1,hl,<- Nat.add_mul];congr 1
    omega
   ·simp only[Array.toList_append,List.append_assoc];rw[<- List.append_assoc,<- hlen];exact List.take_left
   ·rw[gV (by omega)] at hb
    simp at hb
    omega
  rcases vH.2 with ⟨q,rfl,rfl⟩|⟨g,cap,cur,rfl,hbg,hg,We,LI,Ig,htake,oV⟩
  ·have hx:xs=[]:=List.eq_nil_of_length_eq_zero (by simpa using vH.1)
   cases q with
   | none =>
     subst hx;obtain⟨v',w',hr,ho,hgr,_⟩:=run_append_own (P:=P) w w.heap.size T ty e ei ez ei.size ei.bytes hT Da Yg rfl rfl Xa Cu (.slice none 0 0) 0 [] (World.ownsRow_nil w _ e ei.size)
      ad m c news hl CC h1 (by simpa using h63) (by simpa using hb) (Nat.le_refl _)
     exact⟨v',w',hr,qQ (Ij ho) uU,hgr,fun b hb=>.inr ((tS (Ij ho) b hb).1)⟩
   | some ga =>
     obtain⟨v',w',hr,ho,hgr,nA⟩:=grow ga 0 (by omega) (by rw[hx];simp)
     exact⟨v',w',hr,ho,by rw[oE];exact hgr,fun b hb=>.inr (nA b hb)⟩
  ·by_cases BV:n+m<=cap
   ·have O7:n * ei.size+news.length<=cur.size:=by rw[hl,Ig,<- Nat.add_mul];exact Nat.mul_le_mul_right _ BV
    have hr:=run_append_room (P:=P) w T ty e ei hT Da g n cap cur hg ad m c news hl CC h1 BV O7
    refine⟨_,_,hr,⟨hlen,.inr ⟨g,cap,_,rfl,hbg,setRow_heap w g cur _ e _ hg,BV,LI, ?_, ?_,oV⟩⟩,⟨rfl,rfl,rfl,by simp,fun k _ hk=>setRow_other w g k _ (fun e=>hk (by rw[gV oV,e]))⟩,fun b hb=>.inl (by rw[gV oV] at hb ⊢;exact hb)⟩
    ·simp only[List.size_toArray,List.length_append,List.length_take,List.length_drop,Array.length_toList];omega
    ·rw[htake,<- hlen];exact List.take_left
   ·have holds:∀(j:Nat) (u:Value),xs[j]? = some u->w.cell? ((⟨g,0,none⟩:Addr).add j)=some u:=fun j u hu=>by
     rw[lB,Nat.zero_add,cell_of_row w g j cur e (0,0) hg];rw[<- htake,List.getElem?_take] at hu;split at hu
     ·simpa using hu
     ·cases hu
    obtain⟨v',w',hr,ho,hgr,nA⟩:=grow ⟨g,0,none⟩ cap (by omega) holds
    exact⟨v',w',hr,ho,⟨hgr.os,hgr.tape,hgr.output,hgr.size,fun k hk _=>hgr.block k hk (by simp)⟩,fun b hb=>.inr (nA b hb)⟩
theorem lG (dst:Option Nat) (v:AV) (d:Nat) (x:jC):mA.apply { dst:=dst,val:=v,new:=some (d,[x])} st=(st.new d x).put dst v:=by
 simp only[mA.apply,Ze]
theorem Uk (dst:Option Nat) (v:AV) (s g d:Nat) (z:Option jC) (x:jC):mA.apply { dst:=dst,val:=v,dG:=some (s,g,z),new:=some (d,[x])} st=((st.gT s g z).new d x).put dst v:=by
 simp only[mA.apply,Ze]
theorem LS (S:kM F h0 w0 nt ρ st a w) {T ty d:Nat} {s x:AV} {u:Option (Nat × Nat)} {r:jC} {sv xv:Value} (hd:d<nt) (h:cY P st T s x=some (u,r))
 (hs:cK (ctx h0 w0 ρ st w) s sv) (hx:cK (ctx h0 w0 ρ st w) x xv) :
 ∃v w' nX,(Builtin.append_ #[T,T] ty #[sv,xv]).run P w=.ok v w' /\
  kM F h0 w0 nt nX (mA.apply { dst:=some d,val:=.own d (st.aK d),dG:=u.map fun p=>(p.1,p.2,none),new:=some (d,[r])} st) (a.put (some d) v) w':=by
 unfold cY at h;cases WK:dI P T with
 | none=>simp[WK] at h
 | some t =>
   obtain⟨e,sz,by_⟩:=t
   simp only[WK] at h;obtain⟨ei,ez,hT,Da,Yg,rfl,Xa,rfl,Cu⟩:=kD WK
   cases hv:aQ st x with
   | none=>simp[hv] at h
   | some mn =>
     obtain⟨m,news⟩:=mn
     simp only[hv] at h;split at h
     ·rename_i hlen;obtain⟨p,c,rfl,ZE⟩:=tF S hv hx
      have aB3:∃nv:List Value,fQ (ctx h0 w0 ρ st w) news nv/\(nv≠[]->∃ad,p=some ad/\∀(j:Nat) (u:Value),nv[j]? = some u->w.cell? (ad.add j)=some u):=by
       by_cases gI:news=[]
       ·subst gI;exact⟨[],.nil _,fun h=>absurd rfl h⟩
       ·obtain⟨b,off,arr,T',fr,hp,hb,hc⟩:=ZE gI
        refine⟨_,hc,fun _=>⟨_,hp,fun j u hu=>?_⟩⟩
        rw[lB,cell_of_row w b (off+j) arr T' fr hb];rw[List.getElem?_take] at hu;split at hu
        ·rw[List.getElem?_drop] at hu;simpa using hu
        ·cases hu
      obtain⟨nv,We,lZ⟩:=aB3
      have WH:nv.length=m * ei.size:=by rw[<- We.len,hlen]
      have Ta:∀u∈nv,u.oneCell'=true:=fun u hu=>by
       obtain⟨j,hj,rfl⟩:=List.getElem_of_mem hu
       exact We.one j _ (by simp)
      split at h
      ·split at h
       ·rename_i hc;simp only[Option.some.injEq,Prod.mk.injEq] at h;obtain⟨rfl,rfl⟩:=h
        have:=iI hs
        subst this;obtain⟨v',w',hr,ho,hg,WD⟩:=Gs (P:=P) (w:=w) (base:=w.heap.size) (ty:=ty) hT Da Yg Xa Cu (Nat.le_refl _) (Ij (World.ownsRow_nil w _ e ei.size)) (p:=p) (c:=c) WH lZ Ta (by simpa using hc.2) (by simpa using hc.1)
        simp only[Nat.zero_add,List.nil_append] at ho;obtain⟨nX,S'⟩:=S.newRow d hd hg e ei.size m news nv v' ho We
        exact⟨v',w',nX,hr,by rw[Option.map_none,lG];exact S'⟩
       ·cases h
      ·rename_i s' g'
       cases he:st.heap s' g' with
       | none=>simp[he] at h
       | some e' =>
         cases e' with
         | row e2 sz2 n cs =>
           simp only[he] at h;split at h
           ·rename_i hc;obtain⟨rfl,rfl,hb,h63⟩:=hc
            simp only[Option.some.injEq,Prod.mk.injEq] at h;obtain⟨rfl,rfl⟩:=h
            obtain⟨_,_,xs,ho,Ig⟩:=S.rT s' g' _ he
            cases hs with
            | own _ _ hg1 ho1 =>
              obtain⟨v',w',hr,ho',hg,WD⟩:=Gs (P:=P) (w:=w) (ty:=ty) hT Da Yg Xa Cu S.ext.size ho (p:=p) (c:=c) WH lZ Ta h63 hb
              obtain⟨S',k,oF⟩:=S.WQ he hg d (.row e2 ei.size (n+m) (cs++news)) v' (mW ho') WD (fun C k=>⟨xs++nv,ho',(Ig.app We).le k⟩)
              have aZ:st.aK d<(ctx h0 w0 (sQ ρ d (st.aK d) v') ((st.gT s' g' none).new d (.row e2 ei.size (n+m) (cs++news))) w').aK d:=by simp[ctx,St.new,St.gT]
              have jP:(ctx h0 w0 (sQ ρ d (st.aK d) v') ((st.gT s' g' none).new d (.row e2 ei.size (n+m) (cs++news))) w').ρ d (st.aK d)=v':=oF
              have:=cK.own (C:=ctx h0 w0 (sQ ρ d (st.aK d) v') ((st.gT s' g' none).new d (.row e2 ei.size (n+m) (cs++news))) w') d (st.aK d) aZ (by rw[jP];exact mW ho')
              rw[jP] at this;have hS:=S'.put (some d) (fun t ht=>by cases ht;exact hd) this
              exact⟨v',w',_,hr,by rw[Option.map_some,Uk];exact hS⟩
           ·cases h
         | _=>simp[he] at h
      ·rename_i n cs;split at h
       ·rename_i hc;obtain⟨c1,c2,c3,c4⟩:=hc
        simp only[Option.some.injEq,Prod.mk.injEq] at h;obtain⟨rfl,rfl⟩:=h
        have main:∀(q:Option Addr) (ys:List Value),sv=.slice q n n->fQ (ctx h0 w0 ρ st w) cs ys->(ys≠[]->∃ad,q=some ad/\∀(j:Nat) (u:Value),ys[j]? = some u->w.cell? (ad.add j)=some u) ->
         ∃v' w',(Builtin.append_ #[T,T] ty #[sv,.slice p m c]).run P w=.ok v' w'/\lO w' w.heap.size e ei.size v' (n+m) (ys++nv)/\w.grownBy w' none:=by
         rintro q ys rfl Ue hcell'
         have hyl:ys.length=n * ei.size:=by rw[<- Ue.len,c1]
         by_cases hm:m=0
         ·have hn0:n=0:=by omega
          subst hm;subst hn0;have hy0:ys=[]:=List.eq_nil_of_length_eq_zero (by simpa using hyl)
          have hn0:nv=[]:=List.eq_nil_of_length_eq_zero (by simpa using WH)
          subst hy0;subst hn0;obtain⟨v',w',hr,ho,hg,_⟩:=Gs (P:=P) (w:=w) (base:=w.heap.size) (ty:=ty) (v:=.slice q 0 0) (n:=0) (xs:=[]) hT Da Yg Xa Cu (Nat.le_refl _) ⟨by simp,.inl ⟨q,rfl,rfl⟩⟩ (p:=p) (c:=c) WH lZ (by simp) c4 c3
          rw[oE] at hg;exact⟨v',w',hr,ho,hg⟩
         ·have gI:nv≠[]:=by
           intro h;rw[h] at WH;have:0<m * ei.size:=Nat.mul_pos (by omega) Cu
           simp at WH
           omega
          obtain⟨ad,rfl,CC⟩:=lZ gI
          have hlen':(ys++nv).length=(n+m) * ei.size:=by rw[List.length_append,hyl,WH,Nat.add_mul]
          cases q with
          | none =>
            have hy0:ys=[]:=by
             by_cases h:ys=[]
             ·exact h
             ·obtain⟨ad,h1,_⟩:=hcell' h
              cases h1
            subst hy0;have hn0:n=0:=by
             rcases Nat.eq_zero_or_pos n with h|h
             ·exact h
             ·have:=Nat.mul_pos h Cu
              simp at hyl
              omega
            subst hn0;obtain⟨v',w',hr,ho,hg,_⟩:=Gs (P:=P) (w:=w) (base:=w.heap.size) (ty:=ty) (v:=.slice none 0 0) (n:=0) (xs:=[]) hT Da Yg Xa Cu (Nat.le_refl _) ⟨by simp,.inl ⟨none,rfl,rfl⟩⟩ (p:=some ad) (c:=c) WH lZ Ta c4 c3
            rw[oE] at hg;exact⟨v',w',hr,ho,hg⟩
          | some ga =>
            have holds:∀(j:Nat) (u:Value),ys[j]? = some u->w.cell? (ga.add j)=some u:=fun j u hu=>by
             have hne':ys≠[]:=by intro h;rw[h] at hu;simp at hu
             obtain⟨ad',h1,h2⟩:=hcell' hne'
             cases h1
             exact h2 j u hu
            have hr:=run_append_grow (P:=P) w T ty e ei ez hT Da Yg ga n n ys hyl holds ad m c nv WH CC (by omega) (by simp only[maxLen] at c4;omega) (growslice_fits (by omega) c3)
            have hge:=grownCap_ge w (n+m) n e
            have aJk:=grownCap_le_maxLen w (n+m) n e c4
            refine⟨_,_,hr,⟨hlen',.inr ⟨w.heap.size,_,_,rfl,Nat.le_refl _,heap_alloc_new w.drew _,hge,aJk, ?_, ?_,by omega⟩⟩,⟨rfl,rfl,rfl,by simp,fun k hk _=>heap_alloc_old w.drew _ hk⟩⟩
            ·simp only[Array.size_append,List.size_toArray,size_zeroCells,Xa,hyl,WH,<- Nat.add_mul];congr 1
             omega
            ·simp only[Array.toList_append,List.append_assoc];rw[<- List.append_assoc,<- hlen'];exact List.take_left
        have fin:∀(ys:List Value),fQ (ctx h0 w0 ρ st w) cs ys->(∃v' w',(Builtin.append_ #[T,T] ty #[sv,.slice p m c]).run P w=.ok v' w'/\lO w' w.heap.size e ei.size v' (n+m) (ys++nv)/\w.grownBy w' none) ->
         ∃v w' nX,(Builtin.append_ #[T,T] ty #[sv,.slice p m c]).run P w=.ok v w' /\
          kM F h0 w0 nt nX (mA.apply { dst:=some d,val:=.own d (st.aK d),dG:=(none:Option (Nat × Nat)).map fun p=>(p.1,p.2,none),new:=some (d,[.row e ei.size (n+m) (cs++news)])} st) (a.put (some d) v) w':=by
         rintro ys Ue ⟨v',w',hr,ho,hg⟩
         obtain⟨nX,S'⟩:=S.newRow d hd hg e ei.size (n+m) (cs++news) (ys++nv) v' ho (Ue.app We)
         exact⟨v',w',nX,hr,by rw[Option.map_none,lG];exact S'⟩
        cases hs with
        | cl0 n q=>exact fin [] (.nil _) (main q [] rfl (.nil _) (by simp))
        | cl n cs b off arr T' fr hb hle hr HH =>
          have Bl:fQ (ctx h0 w0 ρ st w) cs ((arr.toList.drop off).take cs.length):=by
           refine⟨by simp;omega,fun i x y hx hy=>?_,fun i y hy=>?_⟩
           ·have hi:=(List.getElem?_eq_some_iff.1 hx).1
            rw[List.getElem?_take,if_pos hi,List.getElem?_drop] at hy;exact hr i x y hx (by simpa using hy)
           ·rw[List.getElem?_take] at hy;split at hy
            ·rename_i hi;rw[List.getElem?_drop] at hy;exact HH i y hi (by simpa using hy)
            ·cases hy
          refine fin _ Bl (main _ _ rfl Bl fun _=>⟨⟨b,off,none⟩,rfl,fun j u hu=>?_⟩)
          rw[lB,cell_of_row w b (off+j) arr T' fr hb.1];rw[List.getElem?_take] at hu;split at hu
          ·rw[List.getElem?_drop] at hu;simpa using hu
          ·cases hu
       ·cases h
      ·cases h
     ·cases h
theorem FJ (S:kM F h0 w0 nt ρ st a w) {T ty:Nat} {s x:AV} {u:Nat × Nat × jC × Nat} {sv xv:Value} (h:mY P st T s x=some u)
 (hs:cK (ctx h0 w0 ρ st w) s sv) (hx:cK (ctx h0 w0 ρ st w) x xv) :
 ∃v w',(Builtin.append_ #[T,T] ty #[sv,xv]).run P w=.ok v w'/\kM F h0 w0 nt ρ (st.gT u.1 u.2.1 (some u.2.2.1)) a w' /\
  cK (ctx h0 w0 ρ (st.gT u.1 u.2.1 (some u.2.2.1)) w') (.vw u.1 u.2.1 0 u.2.2.2) v:=by
 unfold mY at h;split at h
 ·rename_i e sz by_ m news s' g' k WK hv
  obtain⟨ei,ez,hT,Da,Yg,rfl,Xa,rfl,Cu⟩:=kD WK
  cases he:st.heap s' g' with
  | none=>simp[he] at h
  | some en =>
    cases en with
    | row e' rS n cs =>
      simp only[he] at h;split at h
      ·rename_i hc;obtain⟨rfl,rfl,hlen,O7⟩:=hc
       simp only[Option.some.injEq] at h;subst h;obtain⟨p,c,rfl,ZE⟩:=tF S hv hx
       have aB3:∃nv:List Value,fQ (ctx h0 w0 ρ st w) news nv/\(nv≠[]->∃ad,p=some ad/\∀(j:Nat) (u:Value),nv[j]? = some u->w.cell? (ad.add j)=some u):=by
        by_cases gI:news=[]
        ·subst gI;exact⟨[],.nil _,fun h=>absurd rfl h⟩
        ·obtain⟨b,off,arr,T',fr,hp,hb,hc⟩:=ZE gI
         refine⟨_,hc,fun _=>⟨_,hp,fun j u hu=>?_⟩⟩
         rw[lB,cell_of_row w b (off+j) arr T' fr hb];rw[List.getElem?_take] at hu;split at hu
         ·rw[List.getElem?_drop] at hu;simpa using hu
         ·cases hu
       obtain⟨nv,We,lZ⟩:=aB3
       have WH:nv.length=m * ei.size:=by rw[<- We.len,hlen]
       have Ta:∀u∈nv,u.oneCell'=true:=fun u hu=>by
        obtain⟨j,hj,rfl⟩:=List.getElem_of_mem hu
        exact We.one j _ (by simp)
       obtain⟨_,_,xs,ho,Bl⟩:=S.rT s' g' _ he
       cases hs with
       | vw _ _ _ _ b cap hg hb mZ zZ =>
         have nA:cM (ρ s' g')=some b:=hb
         rcases ho.2 with ⟨q,jP,hn⟩|⟨b',ES,cur,jP,uU,hh,P6,LI,Ig,ht,oV⟩
         ·rw[jP,oE] at nA;cases nA
         ·have vI:b'=b:=by rw[jP,gV oV] at nA;simpa using nA
          subst vI;have hcc:cap=ES:=zZ rfl _ _ _ jP
          subst hcc;have hkm:(k+m) * ei.size<=n * ei.size:=Nat.mul_le_mul_right _ O7
          have hnn:n * ei.size<=cap * ei.size:=Nat.mul_le_mul_right _ P6
          rw[Nat.add_mul] at hkm;have hcl':cur.toList.length=cur.size:=rfl
          have qL:(Builtin.append_ #[T,T] ty #[.slice (some ⟨b',0,none⟩) k cap,.slice p m c]).run P w=.ok (.slice (some ⟨b',0,none⟩) (k+m) cap) (w.setRow b' (cur.toList.take (k * ei.size)++nv++cur.toList.drop (k * ei.size+nv.length)).toArray):=by
           by_cases gI:nv=[]
           ·have hm:m=0:=by
             rw[gI] at WH;rcases Nat.eq_zero_or_pos m with h|h
             ·exact h
             ·have:=Nat.mul_pos h Cu
              simp at WH
              omega
            subst hm;have hfc:∀(x:Value),(∃p,x=.slice p 0 c)->(Builtin.firstCells ei.size 0 x).run P w=.ok #[] w:=by
             rintro x ⟨p,rfl⟩
             cases p<;>simp[Builtin.firstCells,loadCells,loadCellsFrom]
            have e0:(cur.toList.take (k * ei.size)++nv++cur.toList.drop (k * ei.size+nv.length)).toArray=cur:=by
             rw[gI];simp
            rw[e0,setRow_self w b' cur e' (0,0) hh];have hkc:k<=cap:=by omega
            simp[Builtin.append_,aW hT,run_sizeOf w Da,Builtin.lenOf,hfc _ ⟨p,rfl⟩,storeCells,hkc]
           ·obtain⟨ad,rfl,CC⟩:=lZ gI
            exact run_append_room (P:=P) w T ty e' ei hT Da b' k cap cur hh ad m c nv WH CC Ta (by omega) (by omega)
          have hxl:=ho.1
          have hcsl:=Bl.len
          have S':=S.store (e':=.row e' ei.size n (cs.take (k * ei.size)++news++cs.drop (k * ei.size+m * ei.size))) (w':=w.setRow b' (cur.toList.take (k * ei.size)++nv++cur.toList.drop (k * ei.size+nv.length)).toArray) he nA ⟨rfl,rfl,rfl,by simp,fun j _ hj=>setRow_other w b' j _ (fun e=>hj (by rw[e]))⟩ (fun C kC=>by
           refine⟨xs.take (k * ei.size)++nv++xs.drop (k * ei.size+m * ei.size),⟨by simp;omega,.inr ⟨b',cap,_,jP,uU,setRow_heap w b' cur _ e' (0,0) hh,P6,LI,by simp;omega, ?_,oV⟩⟩,(((Bl.take _).app We).app (Bl.drop _)).le kC⟩
           simp only
           rw[<- ht,WH];have l1:(cur.toList.take (k * ei.size)++nv).length=k * ei.size+m * ei.size:=by simp;omega
           rw[List.take_append,l1,List.take_of_length_le (by omega),List.drop_take,List.take_take,Nat.min_eq_left (by omega)])
          exact⟨_,_,qL,S',.vw s' g' 0 _ b' cap hg hb (by show k+m<=cap;omega) (fun _=>zZ rfl)⟩
      ·cases h
    | _=>simp[he] at h
 ·cases h
theorem SL (S:kM F h0 w0 nt ρ st a w) {T ty:Nat} {x:AV} {u:Option (Nat × Nat × jC)} {xv:Value} (h:Cq P st T x=some u) (hx:cK (ctx h0 w0 ρ st w) x xv) :
 ∃w',(Builtin.clear_ #[T] ty #[xv]).run P w=.ok (.tuple #[]) w'/\kM F h0 w0 nt ρ (match u with|some p=>st.gT p.1 p.2.1 (some p.2.2)|none=>st) a w':=by
 unfold Cq at h;split at h
 ·rename_i e sz by_ s g o k WK _;obtain⟨ei,ez,hT,Da,Yg,rfl,Xa,rfl,Cu⟩:=kD WK
  split at h
  ·rename_i z e' rS n cs hz he
   split at h
   ·rename_i hc;obtain⟨rfl,rfl,O7⟩:=hc
    simp only[Option.some.injEq] at h;subst h;obtain⟨i',zv,Dm,SA,rfl,hz1⟩:=Aw hz
    rw[Da] at Dm
    cases Dm
    rw[Yg] at SA;cases SA
    obtain⟨_,_,xs,ho,Bl⟩:=S.rT s g _ he
    cases hx with
    | vw _ _ _ _ b cap hg hb mZ zZ =>
      have nA:cM (ρ s g)=some b:=hb
      rcases ho.2 with ⟨q,jP,hn⟩|⟨b',ES,cur,jP,uU,hh,P6,LI,Ig,ht,oV⟩
      ·rw[jP,oE] at nA;cases nA
      ·have vI:b'=b:=by rw[jP,gV oV] at nA;simpa using nA
       subst vI;have hxl:=ho.1
       have hcsl:=Bl.len
       have hnn:n * ei.size<=ES * ei.size:=Nat.mul_le_mul_right _ P6
       have hcl':cur.toList.length=cur.size:=rfl
       have ZP:(Builtin.zeroCells ez.cells k).toList=(List.range k).flatMap fun _=>ez.cells.toList:=by
        unfold Builtin.zeroCells;rw[<- Jm]
       have hzl:((List.range k).flatMap fun _=>ez.cells.toList).length=k * ei.size:=by
        rw[<- ZP,Array.length_toList,size_zeroCells,Xa]
       have hz1':∀v∈(List.range k).flatMap fun _=>ez.cells.toList,v.oneCell'=true:=fun v hv=>by
        obtain⟨_,_,hv⟩:=List.mem_flatMap.1 hv
        exact hz1 v hv
       have xV:=run_storeCells_at P b' o e' ((List.range k).flatMap fun _=>ez.cells.toList) 0 cur w hh (by rw[hzl];omega) hz1'
       simp only[Nat.add_zero] at xV;have S':=S.store (e':=.row e' ei.size n (cs.take o++((List.range k).flatMap fun _=>ez.cells.toList.map .v)++cs.drop (o+k * ei.size))) (w':=w.setRow b' (cur.toList.take o++((List.range k).flatMap fun _=>ez.cells.toList)++cur.toList.drop (o+((List.range k).flatMap fun _=>ez.cells.toList).length)).toArray) he nA ⟨rfl,rfl,rfl,by simp,fun j _ hj=>setRow_other w b' j _ (fun e=>hj (by rw[e]))⟩ (fun C kC=>by
        refine⟨xs.take o++((List.range k).flatMap fun _=>ez.cells.toList)++xs.drop (o+k * ei.size),⟨by rw[List.length_append,List.length_append,hzl];simp;omega,.inr ⟨b',ES,_,jP,uU,setRow_heap w b' cur _ e' (0,0) hh,P6,LI,by rw[List.size_toArray,List.length_append,List.length_append,hzl];simp;omega, ?_,oV⟩⟩,(((Bl.take _).le kC).app (Lc hz1 k)).app ((Bl.drop _).le kC)⟩
        simp only
        rw[<- ht,hzl];have l1:(cur.toList.take o++((List.range k).flatMap fun _=>ez.cells.toList)).length=o+k * ei.size:=by rw[List.length_append,hzl];simp;omega
        rw[List.take_append,l1,List.take_of_length_le (by omega),List.drop_take,List.take_take,Nat.min_eq_left (by omega)])
       refine⟨_, ?_,S'⟩
       have hzv:(zeroValue e').run P w=.ok ez w:=by simp[zeroValue,typeInfo,Da,Yg]
       cases k with
       | zero =>
         have e0:(cur.toList.take o++((List.range 0).flatMap fun _=>ez.cells.toList)++cur.toList.drop (o+((List.range 0).flatMap fun _=>ez.cells.toList).length)).toArray=cur:=by simp
         rw[e0,setRow_self w b' cur e' (0,0) hh];simp[Builtin.clear_,aW hT]
       | succ k =>
         have hst2:(storeCells ⟨b',o,none⟩ (Builtin.zeroCells ez.cells (k+1)).toList).run P w=.ok () (w.setRow b' (cur.toList.take o++((List.range (k+1)).flatMap fun _=>ez.cells.toList)++cur.toList.drop (o+((List.range (k+1)).flatMap fun _=>ez.cells.toList).length)).toArray):=by rw[ZP];exact xV
         obtain⟨W,hW⟩:∃W,w.setRow b' (cur.toList.take o++((List.range (k+1)).flatMap fun _=>ez.cells.toList)++cur.toList.drop (o+((List.range (k+1)).flatMap fun _=>ez.cells.toList).length)).toArray=W:=⟨_,rfl⟩
         rw[hW] at hst2;rw[hW];simp[Builtin.clear_,aW hT,hzv,hst2]
   ·cases h
  ·cases h
 ·rename_i t cs WK _;simp only[Option.some.injEq] at h;subst h;obtain⟨e,sz,by_⟩:=t
  obtain⟨ei,ez,hT,_⟩:=kD WK
  refine⟨w, ?_,S⟩
  cases hx with
  | JQ n cap p mZ=>cases p<;>simp[Builtin.clear_,aW hT]
  | sl n cs b off cap arr T fr mZ hb hle hr h1=>simp[Builtin.clear_,aW hT]
 ·rename_i t WK _;simp only[Option.some.injEq] at h;subst h;obtain⟨e,sz,by_⟩:=t
  obtain⟨ei,ez,hT,_⟩:=kD WK
  have:=iI hx
  subst this;exact⟨w,by simp[Builtin.clear_,aW hT],S⟩
 ·cases h
theorem ZQ {C:Ctx} {x:AV} {v:Value} {g:Nat} {mH:List AV} (h:EP x=some (g,mH)) (hr:cK C x v):∃cv,v=.func (.func g) #[] cv/\lA C mH cv.toList:=by
 unfold EP at h;split at h
 ·split at h
  ·rename_i hc;obtain⟨rfl,rfl⟩:=hc
   simp only[Option.some.injEq,Prod.mk.injEq] at h;obtain⟨rfl,rfl⟩:=h
   have:=iI hr
   subst this;exact⟨#[],rfl,.nil C⟩
  ·cases h
 ·simp only[Option.some.injEq,Prod.mk.injEq] at h;obtain⟨rfl,rfl⟩:=h
  cases hr with
  | zC f cs a hl hr=>exact⟨a,rfl,by simpa using hl,fun i x y hx hy=>hr i x y hx (by simpa using hy)⟩
 ·cases h
variable [Ext]
theorem FK (S:kM F h0 w0 nt ρ st a w) {call:Nat->List AV->Option AV} (iY:oP P call) {o:Oper} {c:Call} (pX:o.op=.call c) {e:mA}
 (h:hU P call c o.dst st=some e) (hd:∀d,o.dst=some d->d<nt)
 (hK:∀nX a' w',kM F h0 w0 nt nX (e.apply st) a' w'->K a' w'):o.wp P a w K Q:=by
 have vM:lA (ctx h0 w0 ρ st w) (c.args.toList.map st.ev) (c.args.toList.map a.eval):=lA.map _ _ _ fun p _=>S.ev p
 unfold hU at h;split at h
 ·rename_i f hf;have fin:∀g cv,a.eval f=.func (.func g) #[] cv->(yF P g/\Calls P g (c.args.map a.eval++cv) w fun en w'=>∃v,en=.returned v/\K (a.put o.dst v) w')->o.wp P a w K Q:=by
   rintro g cv hv ⟨⟨fn,aJl,aB4,aB5⟩,ZR⟩
   have hnb:fn.body.isNone=false:=by
    cases hb:fn.body<;>simp[hb] at aB5 ⊢
   have Ta : ¬ fn.name = "runtime.NumGoroutine" := by simpa using aB4
   have hn2:¬fn.body=none:=by intro h;simp[h] at hnb
   have qL:(execOp a.eval o).run P w=.ok (.enter g (c.args.map a.eval++cv)) w:=by
    simp[execOp,pX,resolve,hf,hv,Deferred.ofValue,invoke,callFunc,aJl,Ta,hn2]
   unfold Oper.wp;rw[qL,Oper.upon_enter];refine ZR.mono ?_
   rintro en w' ⟨v,rfl,hk⟩
   exact hk
  have gen:∀g mH,EP (st.ev f)=some (g,mH)->aN call g (c.args.toList.map st.ev++mH) st o.dst=some e->o.wp P a w K Q:=by
   intro g mH hfn h;obtain⟨cv,hv,hcaps⟩:=ZQ hfn (S.ev f)
   have eM:lA (ctx h0 w0 ρ st w) (c.args.toList.map st.ev++mH) (c.args.map a.eval++cv).toList:=by
    simpa using vM.app hcaps
   exact fin g cv hv (yZ S iY h eM hd hK)
  unfold mP at h;split at h
  ·rename_i g;split at h
   ·refine fin g #[] rfl ?_
    exact LQ S iY h (by simpa using vM) hd hK
   ·split at h
    ·refine fin g #[] rfl ?_
     exact FI S iY h (by simpa using vM) hd hK
    ·split at h
     ·refine fin g #[] rfl ?_
      exact LP S iY h (by simpa using vM) hd hK
     ·exact gen g [] rfl (by simpa using h)
  ·split at h
   ·rename_i g mH hfn;exact gen g mH hfn h
   ·cases h
 ·rename_i hf;split at h
  ·rename_i x T hx hT;cases hs:dI P T with
   | none=>simp[hs] at h
   | some t =>
     cases hv:aQ st (st.ev x) with
     | none=>simp[hs,hv] at h
     | some nc =>
       obtain⟨n,cs⟩:=nc
       simp only[hs,hv,Option.some.injEq] at h;subst h;obtain⟨p,cap,aB6,_⟩:=tF S hv (S.ev x)
       obtain⟨e,sz,by_⟩:=t
       obtain⟨ei,ez,hu,_⟩:=kD hs
       have ha:c.args=#[x]:=by apply Array.ext';simpa using hx
       have ht:c.argTypes=#[T]:=by apply Array.ext';simpa using hT
       refine upon_value (v:=.int .i64 n) ?_ (hK ρ _ w (S.put o.dst hd (.v _)))
       simp[execOp,pX,resolve,hf,ha,ht,invoke,builtin,Builtin.len_,aB6,aW hu,goInt]
  ·cases h
 ·rename_i hf;split at h
  ·rename_i x y hx;split at h
   ·rename_i k p k' q h1 h2
    simp only[Option.some.injEq] at h;subst h;have e1:=S.ev x
    rw[h1] at e1;have e1:=iI e1
    have e2:=S.ev y
    rw[h2] at e2;have e2:=iI e2
    have ha:c.args=#[x,y]:=by apply Array.ext';simpa using hx
    refine upon_value (v:=.int k (if q<p then q else p)) ?_ (hK ρ _ w (S.put o.dst hd (.v _)))
    simp[execOp,pX,resolve,hf,ha,invoke,builtin,Builtin.min_,Builtin.min2,e1,e2]
   ·cases h
  ·cases h
 ·rename_i hf;split at h
  ·rename_i x y hx;split at h
   ·rename_i k p k' q h1 h2
    simp only[Option.some.injEq] at h;subst h;have e1:=S.ev x
    rw[h1] at e1;have e1:=iI e1
    have e2:=S.ev y
    rw[h2] at e2;have e2:=iI e2
    have ha:c.args=#[x,y]:=by apply Array.ext';simpa using hx
    refine upon_value (v:=.int k (if q > p then q else p)) ?_ (hK ρ _ w (S.put o.dst hd (.v _)))
    simp[execOp,pX,resolve,hf,ha,invoke,builtin,Builtin.max_,Builtin.max2,e1,e2]
   ·cases h
  ·cases h
 ·rename_i hf;cases lE:o.dst with
  | none=>simp[lE,cA] at h
  | some d =>
  simp only[lE,cA] at h;split at h
  ·rename_i s x T T' hx hT
   split at h
   ·rename_i hTT;subst hTT;split at h
    ·cases nM:mY P st T (st.ev s) (st.ev x) with
     | none=>simp[nM] at h
     | some u =>
     simp only[nM,Option.map_some,Option.some.injEq] at h;subst h;obtain⟨v,w',hr,S',hv⟩:=FJ (ty:=o.type) S nM (S.ev s) (S.ev x)
     have ha:c.args=#[s,x]:=by apply Array.ext';simpa using hx
     have ht:c.argTypes=#[T,T]:=by apply Array.ext';simpa using hT
     rw[lE] at hd;have hk:=hK ρ _ w' (S'.put (some d) hd hv)
     unfold Oper.wp;simp only[execOp,pX,resolve,hf,ha,ht,invoke,builtin];simp[hr]
     unfold Oper.upon;rw[lE];exact hk
    split at h
    ·rename_i hpa;obtain⟨_,hs0,WK,hv'⟩:=hpa
     obtain⟨⟨_,cs⟩,hv,hv0⟩:=Option.map_eq_some_iff.1 hv'
     simp only at hv0
     subst hv0;simp only[Option.some.injEq] at h;subst h;have e1:=S.ev s
     rw[hs0] at e1;have e1:=iI e1
     obtain⟨q,c',hxv,_⟩:=tF S hv (S.ev x)
     cases hsi:dI P T with
     | none=>rw[hsi] at WK;cases WK
     | some t =>
     obtain⟨e,sz,by_⟩:=t
     obtain⟨ei,ez,hT',Da,_⟩:=kD hsi
     have hz:∀w:World,(Builtin.firstCells ei.size 0 (.slice q 0 c')).run P w=.ok ([]:List Value).toArray w:=fun w=>by cases q<;>simp[Builtin.firstCells,loadCells,loadCellsFrom]
     have hr:(Builtin.append_ #[T,T] o.type #[.slice none 0 0,.slice q 0 c']).run P w=.ok (.slice none 0 0) w:=run_append_nothing w T T o.type e ei hT' Da none 0 0 (Nat.le_refl _) _ ⟨.inl ⟨e,hT'⟩,fun w'=>by simp[Builtin.lenOf],hz _,hz _,by simp,by simp⟩
     have ha:c.args=#[s,x]:=by apply Array.ext';simpa using hx
     have ht:c.argTypes=#[T,T]:=by apply Array.ext';simpa using hT
     rw[lE] at hd;refine upon_value (v:=.slice none 0 0) ?_ (by rw[lE];exact hK ρ _ w (S.put (some d) hd (.v _)))
     simp[execOp,pX,resolve,hf,ha,ht,invoke,builtin,e1,hxv,hr]
    cases nM:cY P st T (st.ev s) (st.ev x) with
    | none=>simp[nM] at h
    | some ur =>
      obtain⟨u,r⟩:=ur
      simp only[nM,Option.some.injEq] at h;subst h;obtain⟨v,w',nX,hr,S'⟩:=LS (ty:=o.type) S (hd d lE) nM (S.ev s) (S.ev x)
      have ha:c.args=#[s,x]:=by apply Array.ext';simpa using hx
      have ht:c.argTypes=#[T,T]:=by apply Array.ext';simpa using hT
      have hk:=hK nX _ w' S'
      unfold Oper.wp;simp only[execOp,pX,resolve,hf,ha,ht,invoke,builtin];simp[hr]
      unfold Oper.upon;rw[lE];exact hk
   ·cases h
  ·cases h
 ·rename_i hf;split at h
  ·rename_i x T hx hT;cases nM:Cq P st T (st.ev x) with
   | none=>simp[nM] at h
   | some u =>
     simp only[nM,Option.map_some,Option.some.injEq] at h;subst h;obtain⟨w',hr,S'⟩:=SL (ty:=o.type) S nM (S.ev x)
     have ha:c.args=#[x]:=by apply Array.ext';simpa using hx
     have ht:c.argTypes=#[T]:=by apply Array.ext';simpa using hT
     have hk:=hK ρ (a.put o.dst (.tuple #[])) w' (by
      have:=S'.put o.dst hd (x:=.dX []) (v:=.tuple #[]) (.dX [] #[] rfl (by simp))
      cases u with
      | none=>exact this
      | some p=>exact this)
     unfold Oper.wp;simp only[execOp,pX,resolve,hf,ha,ht,invoke,builtin];simp[hr]
     unfold Oper.upon;exact hk
  ·cases h
 ·cases h
theorem Wh (S:kM F h0 w0 nt ρ st a w) {call:Nat->List AV->Option AV} (iY:oP P call) {o:Oper} {e:mA} (h:cZ P call o st=some e) (hd:∀d,o.dst=some d->d<nt)
 (hK:∀nX a' w',kM F h0 w0 nt nX (e.apply st) a' w'->K a' w'):o.wp P a w K Q:=by
 unfold cZ at h;split at h
 ·rename_i T pX;cases lE:o.dst with
  | none=>simp[lE,cA] at h
  | some d =>
    cases hz:dU P T with
    | none=>simp[lE,hz,cA] at h
    | some z =>
      simp only[lE,hz,cA,Option.some.injEq] at h;subst h;obtain⟨i,zv,hi,SA,rfl,hz1⟩:=Aw hz
      obtain⟨nX,S'⟩:=S.newVar d (hd d lE) (zv.cells.toList.map .v) zv.cells T (fQ.vs _ _ hz1)
      refine upon_value (v:=.pointer (some ⟨w.heap.size,0,none⟩)) (w':=w.alloc (.cells zv.cells T)) ?_ (by rw[lE];exact hK nX _ _ (by rw[lG];exact S'))
      simp only[execOp,pX,Instr.alloc];simp[Cs w hi SA,Go.newVar,Go.newRow]
 ·rename_i T x pX;cases lE:o.dst with
  | none=>simp[lE,cA] at h
  | some d =>
    simp only[lE,cA] at h;split at h
    ·rename_i xV;simp only[Option.some.injEq] at h;subst h;obtain⟨nX,S'⟩:=S.newVar d (hd d lE) (st.ev x).cells (a.eval x).cells T ((S.ev x).cells xV)
     refine upon_value (v:=.pointer (some ⟨w.heap.size,0,none⟩)) (w':=w.alloc (.cells (a.eval x).cells T)) ?_ (by rw[lE];exact hK nX _ _ (by rw[lG];exact S'))
     simp only[execOp,pX,Instr.box];simp[Go.newVar,Go.newRow]
    ·cases h
 ·rename_i T n parts pX;cases lE:o.dst with
  | none=>simp[lE,cA] at h
  | some d =>
    cases hs:dI P T with
    | none=>simp[lE,hs,cA] at h
    | some t =>
      obtain⟨e',sz,by_⟩:=t
      cases hz:dU P e' with
      | none=>simp[lE,hs,hz,cA] at h
      | some z =>
        simp only[lE,hs,hz,cA] at h;split at h
        ·rename_i hc;obtain⟨c1,c2,c3⟩:=hc
         cases hf:gM (fun i=>some (i * sz,sz)) ((List.range n).flatMap fun _=>z.map .v) (parts.toList.map fun p=>(p.1,st.ev p.2)) with
         | none=>simp[hf] at h
         | some cs =>
           simp only[hf,Option.some.injEq] at h;subst h;obtain⟨v,w',xs,hr,hg,ho,lZ⟩:=Uj S hs hz c1 c2 c3 hf
           obtain⟨nX,S'⟩:=S.newRow d (hd d lE) hg e' sz n cs xs v ho lZ
           refine upon_value (v:=v) (w':=w') ?_ (by rw[lE];exact hK nX _ _ (by rw[lG];exact S'))
           simp only[execOp,pX];rw[dF hr];rfl
        ·cases h
 ·rename_i T l c pX;cases lE:o.dst with
  | none=>simp[lE,cA] at h
  | some d =>
    cases hs:dI P T with
    | none=>simp[lE,hs,cA] at h
    | some t =>
      obtain⟨e',sz,by_⟩:=t
      cases hz:dU P e' with
      | none=>simp[lE,hs,hz,cA] at h
      | some z =>
        simp only[lE,hs,hz,cA] at h;split at h
        ·rename_i n m hl hc;split at h
         ·rename_i aBU;obtain⟨c1,rfl,c3,c4⟩:=aBU
          simp only[Option.some.injEq] at h;subst h;obtain⟨k,rfl⟩:∃k:Nat,n=k:=⟨n.toNat,by omega⟩
          obtain⟨v,w',xs,hr,hg,ho,lZ⟩:=Xi (w:=w) (ctx h0 w0 ρ st w) hs hz (n:=k) (by
           have:((k * by_:Nat):Int)<=140737488355328:=by rw[Int.natCast_mul];exact c3
           omega) (by omega)
          obtain⟨nX,S'⟩:=S.newRow d (hd d lE) hg e' sz k _ xs v ho lZ
          simp only[Int.toNat_natCast] at hK;refine upon_value (v:=v) (w':=w') ?_ (by rw[lE];exact hK nX _ _ (by rw[lG];exact S'))
          have e1:=S.ev l
          rw[hl] at e1;have e1:=iI e1
          have e2:=S.ev c
          rw[hc] at e2;have e2:=iI e2
          simp only[execOp,pX,e1,e2];rw[dF hr];rfl
         ·cases h
        ·cases h
 ·rename_i T x y pX;cases hs:pZ P st T (st.ev x) (st.ev y) with
  | none=>simp[hs] at h
  | some u =>
    obtain⟨s,g,e'⟩:=u
    simp only[hs,Option.map_some,Option.some.injEq] at h;subst h;obtain⟨w',hr,S'⟩:=SK S hs (S.ev x) (S.ev y)
    have hk:=hK ρ _ w' (S'.put o.dst hd (.v undef))
    unfold Oper.wp;simp only[execOp,pX];rw[dF hr];exact hk
 ·rename_i T pX;cases lE:o.dst with
  | none=>simp[lE,cA] at h
  | some d =>
    simp only[lE,cA,Option.some.injEq] at h;subst h;obtain⟨S',k,oF⟩:=S.new (World.grownBy_alloc w (.map #[] 0) none) d (.map []) (.map (some w.heap.size)) rfl (fun b hb=>by simp[cM] at hb;omega)
     (fun C k _=>⟨w.heap.size,#[],0,rfl,S.ext.size,heap_alloc_new w _,trivial⟩)
    have aZ:st.aK d<(ctx h0 w0 (sQ ρ d (st.aK d) (.map (some w.heap.size))) (st.new d (.map [])) (w.alloc (.map #[] 0))).aK d:=by simp[ctx,St.new]
    have jP:(ctx h0 w0 (sQ ρ d (st.aK d) (.map (some w.heap.size))) (st.new d (.map [])) (w.alloc (.map #[] 0))).ρ d (st.aK d)=.map (some w.heap.size):=oF
    have:=cK.mp (C:=ctx h0 w0 (sQ ρ d (st.aK d) (.map (some w.heap.size))) (st.new d (.map [])) (w.alloc (.map #[] 0))) d (st.aK d) aZ (by rw[jP];rfl)
    rw[jP] at this;have hS:=S'.put (some d) (fun t ht=>by cases ht;exact hd d lE) this
    refine upon_value (v:=.map (some w.heap.size)) (w':=w.alloc (.map #[] 0)) ?_ (by rw[lE];exact hK _ _ _ (by rw[lG];exact hS))
    simp only[execOp,pX,Option.map_none];rfl
 ·rename_i T m x y pX;cases hs:uG P st T (st.ev m) (st.ev x) (st.ev y) with
  | none=>simp[hs] at h
  | some u =>
    obtain⟨s,g,e'⟩:=u
    simp only[hs,Option.map_some,Option.some.injEq] at h;subst h;obtain⟨w',hr,S'⟩:=LM S hs (S.ev m) (S.ev x) (S.ev y)
    have hk:=hK ρ _ w' (S'.put o.dst hd (.v undef))
    unfold Oper.wp;simp only[execOp,pX];rw[dF hr];exact hk
 ·rename_i c pX;exact FK S iY pX h hd hK
 ·cases hv:iP P st o.op with
  | none=>simp[hv] at h
  | some x =>
    simp only[hv,Option.map_some,Option.some.injEq] at h;subst h;obtain⟨v,hr,eM⟩:=SF S hv
    exact upon_value hr (hK ρ _ w (S.put o.dst hd eM))
end
end Go.Ab
end
section
namespace Go.Ab
open Classical
def mF (aK:Nat->Nat) (x:AV):Prop:=∃(C:Ctx) (v:Value),C.aK=aK/\cK C x v
theorem mF.ptr {aK:Nat->Nat} {s g o:Nat} (h:mF aK (.ptr s g o)):g<aK s:=by
 obtain⟨C,v,rfl,h⟩:=h
 cases h with
 | ptr s g off b hg hb=>exact hg
theorem mF.own {aK:Nat->Nat} {s g:Nat} (h:mF aK (.own s g)):g<aK s:=by
 obtain⟨C,v,rfl,h⟩:=h
 cases h with
 | own s g hg _=>exact hg
theorem mF.vw {aK:Nat->Nat} {s g o n:Nat} (h:mF aK (.vw s g o n)):g<aK s:=by
 obtain⟨C,v,rfl,h⟩:=h
 cases h with
 | vw s g o n b cap hg _ _ _=>exact hg
theorem mF.mp {aK:Nat->Nat} {s g:Nat} (h:mF aK (.mp s g)):g<aK s:=by
 obtain⟨C,v,rfl,h⟩:=h
 cases h with
 | mp s g hg _=>exact hg
theorem mF.agg {aK:Nat->Nat} {cs:List AV} (h:mF aK (.agg cs)):∀c∈cs,mF aK c:=by
 obtain⟨C,v,rfl,h⟩:=h
 cases h with
 | agg cs a hl hr _ =>
   intro c hc;obtain⟨i,hi,rfl⟩:=List.getElem_of_mem hc
   exact⟨C,a[i],rfl,hr i _ _ (by simp[hi]) (by simp)⟩
theorem mF.zC {aK:Nat->Nat} {f:Nat} {cs:List AV} (h:mF aK (.zC f cs)):∀c∈cs,mF aK c:=by
 obtain⟨C,v,rfl,h⟩:=h
 cases h with
 | zC f cs a hl hr =>
   intro c hc;obtain⟨i,hi,rfl⟩:=List.getElem_of_mem hc
   exact⟨C,a[i]'(by omega),rfl,hr i _ _ (by simp[hi]) (by simp)⟩
section
variable {P:Program} {call:Nat->List AV->Option AV} {st st':St}
def pL (st st':St):Prop:=∀s g,g<st.aK s->st'.heap s g=st.heap s g
theorem LU {x:AV} (hx:mF st.aK x) (hh:pL st st'):qP st' x=qP st x:=by
 cases x<;>simp only[qP]
 rw[hh _ _ hx.ptr]
theorem tG {x:AV} (hx:mF st.aK x) (hh:pL st st'):aQ st' x=aQ st x:=by
 cases x
 case own=>simp only[aQ,hh _ _ hx.own]
 case vw=>simp only[aQ,hh _ _ hx.vw]
 case v y =>
  cases y
  case slice p n c=>cases p<;>cases n<;>cases c<;>rfl
  all_goals rfl
 all_goals rfl
theorem Ul {T:Nat} {x i:AV} (hx:mF st.aK x) (hh:pL st st'):bE P st' T x i=bE P st T x i:=by
 unfold bE;cases x<;>try rfl
 simp only[hh _ _ hx.own]
theorem CD {T:Nat} {x:AV} {lo hi:Option Operand} (hx:∀s g,((∃o,x=.ptr s g o)\/x=.own s g\/∃o n,x=.vw s g o n)->st'.heap s g=st.heap s g) (hl:∀p,lo=some p->st'.ev p=st.ev p) (Dm:∀p,hi=some p->st'.ev p=st.ev p):dA P st' T x lo hi=dA P st T x lo hi:=by
 unfold dA;cases dI P T with
 | none =>
   simp only
   cases jI P T with
   | none=>rfl
   | some na =>
     cases x<;>try rfl
     rename_i s g o;cases lo<;>cases hi<;>try rfl
     simp only[hx s g (.inl ⟨o,rfl⟩)]
 | some t =>
   simp only
   cases x<;>try rfl
   case v y =>
    cases y<;>try rfl
    rename_i p n c;cases p<;>cases n<;>cases c<;>try rfl
    cases lo with
    | none=>cases hi with
      | none=>rfl
      | some h=>simp only[Dm h rfl]
    | some l=>cases hi with
      | none=>simp only[hl l rfl]
      | some h=>simp only[hl l rfl,Dm h rfl]
   case sl n cs =>
    cases lo with
    | none=>cases hi with
      | none=>rfl
      | some h=>simp only[Dm h rfl]
    | some l=>cases hi with
      | none=>simp only[hl l rfl]
      | some h=>simp only[hl l rfl,Dm h rfl]
   case own s g =>
    simp only[hx s g (.inr (.inl rfl))];cases lo with
    | none=>cases hi with
      | none=>rfl
      | some h=>simp only[Dm h rfl]
    | some l=>cases hi with
      | none=>simp only[hl l rfl]
      | some h=>simp only[hl l rfl,Dm h rfl]
   case vw s g o n =>
    cases o with
    | succ o=>rfl
    | zero =>
      simp only[hx s g (.inr (.inr ⟨_,_,rfl⟩))];cases st.heap s g with
      | none=>rfl
      | some e=>cases e with
        | row e' rS n' Br =>
          cases lo with
          | none=>cases hi<;>rfl
          | some l=>cases hi with
            | none=>rfl
            | some h=>simp only[hl l rfl,Dm h rfl]
        | _=>rfl
theorem LV {T:Nat} {x:AV} {lo hi:Option Operand} (hx:mF st.aK x) (hh:pL st st') (hl:∀p,lo=some p->st'.ev p=st.ev p) (Dm:∀p,hi=some p->st'.ev p=st.ev p):dA P st' T x lo hi=dA P st T x lo hi :=
 CD (fun s g h=>by
  rcases h with ⟨o,rfl⟩|rfl|⟨o,n,rfl⟩
  ·exact hh _ _ hx.ptr
  ·exact hh _ _ hx.own
  ·exact hh _ _ hx.vw) hl Dm
def CE (st:St):Prop:=∀s g cs,st.heap s g=some (.cells cs)->∀c∈cs,mF st.aK c
theorem SM {x:AV} (hx:mF st.aK x) (hh:pL st st'):pN st' x=pN st x:=by
 unfold pN;cases x<;>try rfl
 ·simp only[hh _ _ hx.own]
 ·simp only[hh _ _ hx.vw]
theorem Jn (hp:CE st) {x:AV} (hx:mF st.aK x) (hh:pL st st'):cC st' x=cC st x:=by
 unfold cC;cases x<;>try rfl
 ·rename_i s g o;simp only[hh _ _ hx.ptr];cases he:st.heap s g with
  | none=>rfl
  | some e =>
    cases e with
    | cells cs =>
      have:cs.map (pN st')=cs.map (pN st):=List.map_congr_left fun c hc=>SM (hp s g cs he c hc) hh
      simp only[this]
    | _=>rfl
 ·simp only[hh _ _ hx.own]
 ·simp only[hh _ _ hx.vw]
theorem CF (hp:CE st) {x:AV} (hx:mF st.aK x) (hh:pL st st'):eW st' x=eW st x:=by
 unfold eW;cases x<;>try (simp only[Jn hp hx hh];done)
 ·rename_i cs;have:cs.map (cC st')=cs.map (cC st):=List.map_congr_left fun c hc=>Jn hp (hx.agg c hc) hh
  simp only[this]
 ·rename_i f cs;have:cs.map (cC st')=cs.map (cC st):=List.map_congr_left fun c hc=>Jn hp (hx.zC c hc) hh
  simp only[this]
theorem LW {T:Nat} {x y:AV} (hx:mF st.aK x) (hh:pL st st'):pZ P st' T x y=pZ P st T x y:=by
 unfold pZ;cases x<;>try rfl
 simp only[hh _ _ hx.ptr]
theorem FL {T:Nat} {s x:AV} (hs:mF st.aK s) (hx:mF st.aK x) (hh:pL st st'):cY P st' T s x=cY P st T s x:=by
 unfold cY;simp only[tG hx hh];cases s
 case own=>simp only[hh _ _ hs.own]
 case v y =>
  cases y
  case slice p n c=>cases p<;>cases n<;>cases c<;>rfl
  all_goals rfl
 all_goals rfl
theorem FM {T:Nat} {s x:AV} (hs:mF st.aK s) (hx:mF st.aK x) (hh:pL st st'):mY P st' T s x=mY P st T s x:=by
 unfold mY;rw[tG hx hh];cases dI P T with
 | none=>rfl
 | some t=>cases aQ st x with
   | none=>rfl
   | some mn =>
     cases s<;>try rfl
     case vw s g o n =>
      cases o with
      | zero=>simp only[hh _ _ hs.vw]
      | succ o=>rfl
theorem LX {T:Nat} {x:AV} (hx:mF st.aK x) (hh:pL st st'):Cq P st' T x=Cq P st T x:=by
 unfold Cq;cases dI P T with
 | none=>rfl
 | some t =>
   cases x<;>try rfl
   case vw s g o n=>simp only[hh _ _ hx.vw]
   case v y =>
    cases y<;>try rfl
    rename_i p n c;cases p<;>cases n<;>cases c<;>rfl
   case sl n cs=>cases n<;>rfl
theorem Wi {T:Nat} {x:AV} {lo:Option Operand} {hi mx:Operand} (hx:∀s g,x=.own s g->st'.heap s g=st.heap s g) (hl:∀p,lo=some p->st'.ev p=st.ev p) (h1:st'.ev hi=st.ev hi) (h2:st'.ev mx=st.ev mx):Bq P st' T x lo hi mx=Bq P st T x lo hi mx:=by
 unfold Bq;rw[h1,h2];cases dI P T with
 | none=>rfl
 | some t =>
   simp only
   cases lo with
   | none =>
     simp only
     cases x<;>try rfl
     case own s g=>simp only[hx s g rfl]
     case v y =>
      cases y<;>try rfl
      rename_i p n c;cases p<;>cases n<;>cases c<;>rfl
   | some l =>
     simp only[hl l rfl];cases x<;>try rfl
     case own s g=>simp only[hx s g rfl]
     case v y =>
      cases y<;>try rfl
      rename_i p n c;cases p<;>cases n<;>cases c<;>rfl
theorem SN {T:Nat} {m x:AV} {ok:Bool} (hm:mF st.aK m) (hh:pL st st'):Vo P st' T m x ok=Vo P st T m x ok:=by
 unfold Vo;cases m<;>try rfl
 simp only[hh _ _ hm.mp]
theorem FN {T:Nat} {m x y:AV} (hm:mF st.aK m) (hh:pL st st'):uG P st' T m x y=uG P st T m x y:=by
 unfold uG;cases m<;>try rfl
 simp only[hh _ _ hm.mp]
theorem LY {r:AV} {dst:Option Nat} (hc:∀d,dst=some d->st'.aK d=st.aK d):iG r st' dst=iG r st dst:=by
 unfold iG;cases dst with
 | none=>rfl
 | some d=>simp only[hc d rfl]
theorem uW (hp:CE st) {g:Nat} {args:List AV} {dst:Option Nat} (hx:∀x∈args,mF st.aK x) (hh:pL st st') (hc:∀d,dst=some d->st'.aK d=st.aK d):aN call g args st' dst=aN call g args st dst:=by
 unfold aN;have:args.map (eW st')=args.map (eW st):=List.map_congr_left fun x Ic=>CF hp (hx x Ic) hh
 rw[this];have h2:∀r,iG r st' dst=iG r st dst:=fun r=>LY hc
 simp only[h2]
theorem LZ (hp:CE st) {g:Nat} {args:List AV} {dst:Option Nat} (hx:∀x∈args,mF st.aK x) (hh:pL st st') (hc:∀d,dst=some d->st'.aK d=st.aK d):kN call g args st' dst=kN call g args st dst:=by
 unfold kN;split
 ·rename_i s k rest;rw[hh _ _ (hx _ (List.mem_cons_self ..)).own];cases dst with
  | none=>rfl
  | some d=>simp only[hc d rfl]
 ·rw[uW hp hx hh hc]
theorem FO (hp:CE st) {g:Nat} {args:List AV} {dst:Option Nat} (hx:∀x∈args,mF st.aK x) (hh:pL st st') (hc:∀d,dst=some d->st'.aK d=st.aK d):eY call g args st' dst=eY call g args st dst:=by
 have h1:=uW (call:=call) (g:=g) hp hx hh hc
 have:args.map (eW st')=args.map (eW st):=List.map_congr_left fun x Ic=>CF hp (hx x Ic) hh
 unfold eY;rw[this,h1];have h2:∀r s k,zW r st' dst s k=zW r st dst s k:=fun r s k=>by
  unfold zW;cases dst with
  | none=>cases r<;>rfl
  | some d=>cases r<;>simp only[hc d rfl]
 simp only[h2]
theorem MA (hp:CE st) {g:Nat} {args:List AV} {dst:Option Nat} (hx:∀x∈args,mF st.aK x) (hh:pL st st') (hc:∀d,dst=some d->st'.aK d=st.aK d):uH call g args st' dst=uH call g args st dst:=by
 unfold uH;split
 ·rename_i x s k;rw[hh _ _ (hx (.own s k) (by simp)).own]
 ·rw[uW hp hx hh hc]
theorem Rj {parts:List (Nat × Operand)} (h:∀p∈parts,st'.ev p.2=st.ev p.2):(parts.map fun p=>(p.1,st'.ev p.2))=parts.map fun p=>(p.1,st.ev p.2) :=
 List.map_congr_left fun p hp=>by rw[h p hp]
theorem Yu {parts:List (Nat × Operand)} (h:∀p∈parts,st'.ev p.2=st.ev p.2):(parts.all fun p=>(st'.ev p.2).jO)=parts.all fun p=>(st.ev p.2).jO:=by
 induction parts with
 | nil=>rfl
 | cons p ps ih =>
   simp only[List.all_cons];rw[h p (by simp),ih fun q hq=>h q (by simp[hq])]
theorem P7 {aK:Nat->Nat} {x:AV} {g:Nat} {mH:List AV} (h:EP x=some (g,mH)) (hx:mF aK x):∀c∈mH,mF aK c:=by
 unfold EP at h;split at h
 ·split at h
  ·simp only[Option.some.injEq,Prod.mk.injEq] at h;obtain⟨rfl,rfl⟩:=h
   simp
  ·cases h
 ·simp only[Option.some.injEq,Prod.mk.injEq] at h;obtain⟨rfl,rfl⟩:=h
  exact hx.zC
 ·cases h
variable [Ext]
theorem FP (hp:CE st) {c:Call} {dst:Option Nat} (he:∀p∈c.operands,st'.ev p=st.ev p) (hi:∀p∈c.operands,mF st.aK (st.ev p)) (hh:pL st st') (hc:∀d,dst=some d->st'.aK d=st.aK d) :
 hU P call c dst st'=hU P call c dst st:=by
 have vM:∀p∈c.args.toList,p∈c.operands:=fun p hp=>by simp[Call.operands];right;simpa using hp
 unfold hU;split
 ·rename_i f hf;have hfo:f∈c.operands:=by simp[Call.operands,hf]
  have hm:c.args.toList.map st'.ev=c.args.toList.map st.ev:=List.map_congr_left fun p hp=>he p (vM p hp)
  have hia:∀x∈c.args.toList.map st.ev,mF st.aK x:=fun x hx=>by
   obtain⟨p,hp,rfl⟩:=List.mem_map.1 hx
   exact hi p (vM p hp)
  unfold mP;rw[hm];split
  ·split
   ·exact LZ hp hia hh hc
   ·split
    ·exact FO hp hia hh hc
    ·split
     ·exact MA hp hia hh hc
     ·exact uW hp hia hh hc
  ·rw[he f hfo];cases h:EP (st.ev f) with
   | none=>rfl
   | some gc =>
     obtain⟨g,mH⟩:=gc
     refine uW hp (fun x hx=>?_) hh hc
     rcases List.mem_append.1 hx with hx|hx
     ·exact hia x hx
     ·exact P7 h (hi f hfo) x hx
 ·split
  ·rename_i x T hx hT;have hxo:=vM x (by rw[hx];simp)
   rw[he x hxo,tG (hi x hxo) hh]
  ·rfl
 ·split
  ·rename_i x y hx;rw[he x (vM x (by rw[hx];simp)),he y (vM y (by rw[hx];simp))]
  ·rfl
 ·split
  ·rename_i x y hx;rw[he x (vM x (by rw[hx];simp)),he y (vM y (by rw[hx];simp))]
  ·rfl
 ·cases dst with
  | none=>rfl
  | some d =>
  simp only[cA];split
  ·rename_i s x T T' hx hT
   have hso:=vM s (by rw[hx];simp)
   have hxo:=vM x (by rw[hx];simp)
   have hn:Cr P st' T (st'.ev s) (st'.ev x)=Cr P st T (st.ev s) (st.ev x):=by simp only[Cr,he s hso,he x hxo,tG (hi x hxo) hh]
   rw[hn,he s hso,he x hxo,FL (hi s hso) (hi x hxo) hh,FM (hi s hso) (hi x hxo) hh,hc d rfl]
  ·rfl
 ·split
  ·rename_i x T hx hT;have hxo:=vM x (by rw[hx];simp)
   rw[he x hxo,LX (hi x hxo) hh]
  ·rfl
 ·rfl
theorem SO (hp:CE st) {o:Oper} (he:∀p∈o.op.operands,st'.ev p=st.ev p) (hi:∀p∈o.op.operands,mF st.aK (st.ev p)) (hh:pL st st') (hc:∀d,o.dst=some d->st'.aK d=st.aK d) :
 cZ P call o st'=cZ P call o st:=by
 obtain⟨dst,op,type,pos,after,guard⟩:=o
 cases op<;>simp only[cZ,iP,Op.operands] at *
 case call c=>exact FP hp he hi hh hc
 case alloc T=>cases dst with
  | none=>rfl
  | some d=>simp only[cA,hc d rfl]
 case box T x=>cases dst with
  | none=>rfl
  | some d=>simp only[cA,hc d rfl,he x (by simp)]
 case buildSlice T n parts =>
  have zD:∀p∈parts.toList,st'.ev p.2=st.ev p.2:=fun p hp=>he p.2 (by simp;exact⟨p.1,by simpa using hp⟩)
  rw[Rj zD,Yu zD];cases dst with
  | none=>rfl
  | some d=>simp only[cA,hc d rfl]
 case makeSlice T l c =>
  rw[he l (by simp),he c (by simp)]
  cases dst with
  | none=>rfl
  | some d=>simp only[cA,hc d rfl]
 case makeMap T r =>
  cases r with
  | none=>cases dst with
    | none=>rfl
    | some d=>simp only[cA,hc d rfl]
  | some r=>rfl
 case mapUpdate T m x y=>rw[he m (by simp),he x (by simp),he y (by simp),FN (hi m (by simp)) hh]
 case lookup T m x ok=>rw[he m (by simp),he x (by simp),SN (hi m (by simp)) hh]
 case store T x y=>rw[he x (by simp),he y (by simp),LW (hi x (by simp)) hh]
 case move x=>rw[he x (by simp)]
 case assign x=>rw[he x (by simp)]
 case pick c x y=>rw[he c (by simp),he x (by simp),he y (by simp)]
 case binOp op T x y yT=>rw[he x (by simp),he y (by simp)]
 case unOp op T x=>rw[he x (by simp)]
 case convert s d x=>rw[he x (by simp)]
 case nilCheck x=>rw[he x (by simp)]
 case field T x f=>rw[he x (by simp)]
 case fieldAddr T x f=>rw[he x (by simp)]
 case indexAddr T x i=>rw[he x (by simp),he i (by simp),Ul (hi x (by simp)) hh]
 case load T x=>rw[he x (by simp),LU (hi x (by simp)) hh]
 case extract t i=>rw[he t (by simp)]
 case build T parts =>
  have zD:∀p∈parts.toList,st'.ev p.2=st.ev p.2:=fun p hp=>he p.2 (by simp;exact⟨p.1,by simpa using hp⟩)
  unfold iU;rw[Rj zD,Yu zD]
 case slice T x lo Dm mx =>
  cases mx with
  | some m =>
    cases Dm with
    | none=>rfl
    | some h =>
      simp only
      rw[he x (by simp),Wi (fun s g hx=>by have:=hi x (by simp);rw[hx] at this;exact hh _ _ this.own) (fun p hp=>he p (by simp[hp])) (he h (by simp)) (he m (by simp))]
  | none =>
    simp only
    rw[he x (by simp),LV (hi x (by simp)) hh (fun p hp=>he p (by simp[hp])) (fun p hp=>he p (by simp[hp]))]
 case makeFunc fn first captured =>
  cases fn with
  | func f =>
    simp only
    have:captured.toList.map st'.ev=captured.toList.map st.ev:=List.map_congr_left fun p hp=>he p (by simp;right;simpa using hp)
    rw[this]
  | _=>rfl
theorem MB {ops:Array Oper} {o:Oper} (Bl:mQ ops o=0\/mQ ops o=2) (he:∀p∈o.op.operands,st'.ev p=st.ev p) (hc:∀d,o.dst=some d->st'.aK d=st.aK d) :
 cZ P call o st'=cZ P call o st:=by
 obtain⟨dst,op,type,pos,after,guard⟩:=o
 cases op<;>simp only[cZ,iP,Op.operands,mQ] at *
 case call c =>
  exfalso
  obtain⟨callee,args,tN⟩:=c
  cases callee with
  | builtin b=>cases b<;>simp at Bl;split at Bl<;>simp at Bl
  | value f=>cases f<;>simp at Bl;split at Bl<;>(try split at Bl)<;>(try split at Bl)<;>simp at Bl
  | _=>simp at Bl
 case alloc T=>cases dst with
  | none=>rfl
  | some d=>simp only[cA,hc d rfl]
 case box T x=>cases dst with
  | none=>rfl
  | some d=>simp only[cA,hc d rfl,he x (by simp)]
 case buildSlice T n parts =>
  have zD:∀p∈parts.toList,st'.ev p.2=st.ev p.2:=fun p hp=>he p.2 (by simp;exact⟨p.1,by simpa using hp⟩)
  rw[Rj zD,Yu zD];cases dst with
  | none=>rfl
  | some d=>simp only[cA,hc d rfl]
 case makeSlice T l c =>
  rw[he l (by simp),he c (by simp)]
  cases dst with
  | none=>rfl
  | some d=>simp only[cA,hc d rfl]
 case makeMap T r =>
  cases r with
  | none=>cases dst with
    | none=>rfl
    | some d=>simp only[cA,hc d rfl]
  | some r=>rfl
 case mapUpdate T m x y=>simp at Bl
 case lookup T m x ok=>simp at Bl
 case store T x y=>simp at Bl
 case move x=>rw[he x (by simp)]
 case assign x=>rw[he x (by simp)]
 case pick c x y=>rw[he c (by simp),he x (by simp),he y (by simp)]
 case binOp op T x y yT=>rw[he x (by simp),he y (by simp)]
 case unOp op T x=>rw[he x (by simp)]
 case convert s d x=>rw[he x (by simp)]
 case nilCheck x=>rw[he x (by simp)]
 case field T x f=>rw[he x (by simp)]
 case fieldAddr T x f=>rw[he x (by simp)]
 case indexAddr T x i=>simp at Bl
 case load T x=>simp at Bl
 case extract t i=>rw[he t (by simp)]
 case build T parts =>
  have zD:∀p∈parts.toList,st'.ev p.2=st.ev p.2:=fun p hp=>he p.2 (by simp;exact⟨p.1,by simpa using hp⟩)
  unfold iU;rw[Rj zD,Yu zD]
 case slice T x lo Dm mx=>simp at Bl
 case makeFunc fn first captured =>
  cases fn with
  | func f =>
    simp only
    have:captured.toList.map st'.ev=captured.toList.map st.ev:=List.map_congr_left fun p hp=>he p (by simp;right;simpa using hp)
    rw[this]
  | _=>rfl
end
end Go.Ab
end
section
namespace Go.Ab
open Classical
section
variable {P:Program} {call:Nat->List AV->Option AV} {st st':St} {ops:Array Oper}
theorem Rk {r:AV} {dst:Option Nat} {e:mA} (h:iG r st dst=some e):e.dst=dst/\e.dG=none/\∀d x,e.new=some (d,x)->dst=some d:=by
 unfold iG at h;split at h
 ·simp only[Option.some.injEq] at h;subst h;exact⟨rfl,rfl,fun d x h=>by simp at h⟩
 ·cases dst with
  | none=>cases h
  | some d=>simp only[Option.some.injEq] at h;subst h;exact⟨rfl,rfl,fun d x h=>by simp at h;rw[h.1]⟩
theorem uX {g:Nat} {args:List AV} {dst:Option Nat} {e:mA} (h:aN call g args st dst=some e):e.dst=dst/\e.dG=none/\∀d x,e.new=some (d,x)->dst=some d:=by
 unfold aN at h;split at h
 ·cases hc:call g args with
  | none=>simp[hc,cA] at h
  | some r=>simp only[hc,cA] at h;exact Rk h
 ·split at h
  ·rename_i xs _;cases hc:call g xs with
   | none=>simp[hc,cA] at h
   | some r =>
     simp only[hc,cA] at h;split at h
     ·exact Rk h
     ·cases h
  ·cases h
theorem Rl {g:Nat} {args:List AV} {dst:Option Nat} {e:mA} (h:kN call g args st dst=some e):e.dst=dst/\(∀d x,e.new=some (d,x)->dst=some d)/\∀s k x,e.dG=some (s,k,x)->args.head? = some (.own s k):=by
 unfold kN at h;split at h
 ·split at h
  ·split at h
   ·split at h
    ·cases dst with
     | none=>cases h
     | some d =>
       simp only[Option.some.injEq] at h;subst h;exact⟨rfl,fun d x h=>by simp at h;rw[h.1],fun s k x h=>by simp at h;simp[h.1,h.2.1]⟩
    ·simp only[Option.some.injEq] at h;subst h;exact⟨rfl,fun d x h=>by simp at h,fun s k x h=>by simp at h;simp[h.1,h.2.1]⟩
    ·cases h
   ·cases h
  ·cases h
 ·split at h
  ·obtain⟨h1,h2,h3⟩:=uX h
   exact⟨h1,h3,fun s k x h=>by rw[h2] at h;cases h⟩
  ·cases h
theorem MC {g:Nat} {args:List AV} {dst:Option Nat} {e:mA} (h:uH call g args st dst=some e):e.dst=dst/\e.dG=none/\∀d x,e.new=some (d,x)->dst=some d:=by
 unfold uH at h;split at h
 ·split at h
  ·split at h
   ·split at h
    ·split at h
     ·simp only[Option.some.injEq] at h;subst h;exact⟨rfl,rfl,fun d x h=>by simp at h⟩
     ·cases h
    ·cases h
   ·cases h
  ·cases h
 ·split at h
  ·exact uX h
  ·cases h
theorem FQ {g:Nat} {args:List AV} {dst:Option Nat} {e:mA} (h:eY call g args st dst=some e):e.dst=dst/\(∀d x,e.new=some (d,x)->dst=some d)/\∀s k x,e.dG=some (s,k,x)->∃y∈args,y=.own s k\/∃cs,y=.agg cs/\.own s k∈cs:=by
 unfold eY at h;split at h
 ·rename_i s k hk;split at h
  ·split at h
   ·rename_i xs _;cases hc:call g xs with
    | none=>simp[hc,cA] at h
    | some r =>
      simp only[hc,cA] at h;have hu:e.dG=some (s,k,none)/\e.dst=dst/\∀d x,e.new=some (d,x)->dst=some d:=by
       rcases Ri h with ⟨_,rfl⟩|⟨_,e1,sz,n,cs,d,rfl,rfl,_,rfl⟩
       ·exact⟨rfl,rfl,fun d x h=>by simp at h⟩
       ·exact⟨rfl,rfl,fun d x h=>by simp at h;rw[h.1]⟩
      ·refine⟨hu.2.1,hu.2.2,fun s' k' x h=>?_⟩
       rw[hu.1] at h;simp only[Option.some.injEq,Prod.mk.injEq] at h;obtain⟨rfl,rfl,_⟩:=h
       have hm:(s,k)∈args.flatMap iV:=by rw[hk];simp
       obtain⟨y,hy,hyk⟩:=List.mem_flatMap.1 hm
       refine⟨y,hy, ?_⟩
       have key:∀c,(s,k)∈gD c->c=.own s k:=fun c hc=>by
        cases c<;>simp[gD] at hc
        obtain⟨rfl,rfl⟩:=hc
        rfl
       cases y with
       | agg cs =>
         obtain⟨c,hc,hck⟩:=List.mem_flatMap.1 (show (s,k)∈cs.flatMap gD from hyk)
         exact .inr ⟨cs,rfl,by rw[<- key c hck];exact hc⟩
       | own a b=>exact .inl (key _ hyk)
       | _=>simp[iV,gD] at hyk
   ·cases h
  ·cases h
 ·obtain⟨h1,h2,h3⟩:=uX h
  exact⟨h1,h3,fun s k x h=>by rw[h2] at h;cases h⟩
theorem oQ (e:mA) (t:Nat):(e.apply st).env t=if e.dst=some t then e.val else st.env t:=by
 have h2:∀(s1:St),(s1.put e.dst e.val).env t=if e.dst=some t then e.val else s1.env t:=fun s1=>by
  cases hd:e.dst with
  | none=>simp[St.put]
  | some d =>
    simp only[St.put,Option.some.injEq];by_cases h:t=d
    ·subst h;simp
    ·rw[if_neg h,if_neg (fun h'=>h h'.symm)]
 unfold mA.apply;rw[h2];cases e.dG<;>cases e.new<;>rfl
theorem lH (e:mA) (s:Nat):(e.apply st).aK s=match e.new with
 | some (d,es)=>if s=d then st.aK d+es.length else st.aK s
 | none=>st.aK s:=by
 unfold mA.apply;rw[B4];cases e.dG<;>cases e.new<;>rfl
theorem tO (e:mA) (s g:Nat):(e.apply st).heap s g=match e.new with
 | some (d,es)=>if s=d/\st.aK d<=g/\g-st.aK d<es.length then es[g-st.aK d]? else (match e.dG with
   | some (s0,g0,y)=>if s=s0/\g=g0 then y else st.heap s g
   | none=>st.heap s g)
 | none=>(match e.dG with
   | some (s0,g0,y)=>if s=s0/\g=g0 then y else st.heap s g
   | none=>st.heap s g):=by
 unfold mA.apply;rw[Zd];cases e.dG<;>cases e.new<;>rfl
theorem aB8 {o:Oper} (h:∀j want d,o.guard=some (j,want)->(ops[j]?).bind (·.dst)=some d->st'.env d=st.env d):gv ops st' o.guard=gv ops st o.guard:=by
 unfold gv;cases hg:o.guard with
 | none=>rfl
 | some jw =>
   obtain⟨j,want⟩:=jw
   simp only
   cases hd:(ops[j]?).bind (·.dst) with
   | none=>rfl
   | some d=>simp only[h j want d hg hd]
theorem aB9 {a b:St} (h1:a.env=b.env) (h2:a.heap=b.heap) (h3:a.aK=b.aK):a=b:=by
 cases a;cases b;simp_all
theorem CG {T:Nat} {p x:AV} {u:Nat × Nat × jC × Nat} (h:mY P st T p x=some u):∃n,p=.vw u.1 u.2.1 0 n:=by
 unfold mY at h;split at h
 ·split at h
  ·split at h
   ·simp only[Option.some.injEq] at h;subst h;exact⟨_,rfl⟩
   ·cases h
  ·cases h
 ·cases h
theorem P8 {T:Nat} {p:AV} {u:Nat × Nat × jC} (h:Cq P st T p=some (some u)):∃o n,p=.vw u.1 u.2.1 o n:=by
 unfold Cq at h;split at h
 ·split at h
  ·split at h
   ·simp only[Option.some.injEq] at h;subst h;exact⟨_,_,rfl⟩
   ·cases h
  ·cases h
 ·simp at h
 ·simp at h
 ·cases h
variable [Ext]
theorem SP {o:Oper} {e:mA} (h:cZ P call o st=some e) :
 e.dst=o.dst/\(∀d x,e.new=some (d,x)->o.dst=some d)/\(∀s g x,e.dG=some (s,g,x)->mQ ops o=3/\∃p∈o.op.operands,(∃off,st.ev p=.ptr s g off)\/st.ev p=.own s g\/st.ev p=.mp s g\/(∃cs,st.ev p=.agg cs/\.own s g∈cs)\/∃o n,st.ev p=.vw s g o n):=by
 obtain⟨dst,op,type,pos,after,guard⟩:=o
 have val:∀x:Option AV,(x.map fun y=>({ dst:=dst,val:=y }:mA))=some e->e.dst=dst/\(∀d x,e.new=some (d,x)->dst=some d)/\(∀s g x,e.dG≠some (s,g,x)):=fun x h=>by
  cases x with
  | none=>simp at h
  | some y=>simp at h;subst h;exact⟨rfl,fun d x h=>by simp at h,fun s g x h=>by simp at h⟩
 cases op
 case call c =>
  simp only[cZ] at h;unfold hU at h;split at h
  ·rename_i f hc;unfold mP at h;split at h
   ·rename_i g;split at h
    ·rename_i hmv;obtain⟨h1,h2,h3⟩:=Rl h
     refine⟨h1,h2,fun s k x hu=>?_⟩
     have hh:=h3 s k x hu
     obtain⟨callee,args,tN⟩:=c
     simp only at hc hh
     subst hc;cases hl:args.toList with
     | nil=>rw[hl] at hh;simp at hh
     | cons p ps =>
       rw[hl] at hh;simp only[List.map_cons,List.head?_cons,Option.some.injEq] at hh;refine⟨?_,p, ?_,.inr (.inl hh)⟩
       ·simp only[mQ,hl,hmv];cases p with
        | const v=>simp[St.ev] at hh
        | _=>simp
       simp only[Op.operands,Call.operands];simp
       right
       rw[<- Array.mem_toList_iff,hl];simp
    ·split at h
     ·rename_i heat;obtain⟨h1,h2,h3⟩:=FQ h
      refine⟨h1,h2,fun s k x hu=>?_⟩
      obtain⟨y,hy,hyo⟩:=h3 s k x hu
      obtain⟨callee,args,tN⟩:=c
      simp only at hc hy
      subst hc;refine⟨by simp[mQ,heat], ?_⟩
      obtain⟨p,hp,rfl⟩:=List.mem_map.1 hy
      refine⟨p, ?_, ?_⟩
      ·simp only[Op.operands,Call.operands];simp
       right
       simpa using hp
      ·rcases hyo with h|⟨cs,h,hm⟩
       ·exact .inr (.inl h)
       ·exact .inr (.inr (.inr (.inl ⟨cs,h,hm⟩)))
     ·split at h
      ·obtain⟨h1,h2,h3⟩:=MC h
       exact⟨h1,h3,fun s g x h=>by rw[h2] at h;cases h⟩
      ·obtain⟨h1,h2,h3⟩:=uX h
       exact⟨h1,h3,fun s g x h=>by rw[h2] at h;cases h⟩
   ·split at h
    ·obtain⟨h1,h2,h3⟩:=uX h
     exact⟨h1,h3,fun s g x h=>by rw[h2] at h;cases h⟩
    ·cases h
  ·split at h
   ·split at h
    ·simp only[Option.some.injEq] at h;subst h;exact⟨rfl,fun d x h=>by simp at h,fun s g x h=>by simp at h⟩
    ·cases h
   ·cases h
  ·split at h
   ·split at h
    ·simp only[Option.some.injEq] at h;subst h;exact⟨rfl,fun d x h=>by simp at h,fun s g x h=>by simp at h⟩
    ·cases h
   ·cases h
  ·split at h
   ·split at h
    ·simp only[Option.some.injEq] at h;subst h;exact⟨rfl,fun d x h=>by simp at h,fun s g x h=>by simp at h⟩
    ·cases h
   ·cases h
  ·rename_i hc;cases dst with
   | none=>simp[cA] at h
   | some d =>
     simp only[cA] at h;split at h
     ·rename_i s x T T' hx hT
      split at h
      ·split at h
       ·cases nM:mY P st T (st.ev s) (st.ev x) with
        | none=>simp[nM] at h
        | some u =>
        simp only[nM,Option.map_some,Option.some.injEq] at h;subst h;refine⟨rfl,nofun,fun s' g' x' hu=>?_⟩
        simp only[Option.some.injEq,Prod.mk.injEq] at hu;obtain⟨rfl,rfl,rfl⟩:=hu
        obtain⟨n0,vH⟩:=CG nM
        refine⟨?_,s, ?_,.inr (.inr (.inr (.inr ⟨0,n0,vH⟩)))⟩
        ·obtain⟨callee,args,tN⟩:=c
         simp only at hc hx
         subst hc;simp only[mQ,hx];cases s with
         | const v =>
           simp[St.ev] at vH
         | _=>rfl
        ·simp only[Op.operands,Call.operands,hc];simp
         rw[<- Array.mem_toList_iff,hx];simp
       split at h
       ·simp only[Option.some.injEq] at h;subst h;exact⟨rfl,nofun,nofun⟩
       cases nM:cY P st T (st.ev s) (st.ev x) with
       | none=>simp[nM] at h
       | some ur =>
         obtain⟨u,r⟩:=ur
         simp only[nM,Option.some.injEq] at h;subst h;refine⟨rfl,fun d x h=>by simp at h;rw[h.1],fun s' g' x' hu=>?_⟩
         simp only[Option.map_eq_some_iff] at hu;obtain⟨⟨s2,g2⟩,hu1,hu2⟩:=hu
         simp only[Prod.mk.injEq] at hu2;obtain⟨rfl,rfl,rfl⟩:=hu2
         subst hu1;have vH:st.ev s=.own s2 g2:=by
          unfold cY at nM;split at nM
          ·split at nM
           ·split at nM
            ·split at nM
             ·split at nM<;>simp at nM
             ·rename_i s3 g3 hs3;split at nM
              ·split at nM
               ·simp only[Option.some.injEq,Prod.mk.injEq] at nM;obtain⟨⟨rfl,rfl⟩,_⟩:=nM
                exact hs3
               ·cases nM
              ·cases nM
             ·split at nM<;>simp at nM
             ·cases nM
            ·cases nM
           ·cases nM
          ·cases nM
         refine⟨?_,s, ?_,.inr (.inl vH)⟩
         ·obtain⟨callee,args,tN⟩:=c
          simp only at hc hx
          subst hc;simp only[mQ,hx];cases s with
          | const v =>
            simp[St.ev] at vH
          | _=>rfl
         ·simp only[Op.operands,Call.operands,hc];simp
          rw[<- Array.mem_toList_iff,hx];simp
      ·cases h
     ·cases h
  ·rename_i hc;split at h
   ·rename_i x T hx hT;cases nM:Cq P st T (st.ev x) with
    | none=>simp[nM] at h
    | some u =>
      simp only[nM,Option.map_some,Option.some.injEq] at h;subst h;refine⟨rfl,nofun,fun s' g' x' hu=>?_⟩
      simp only[Option.map_eq_some_iff,Prod.mk.injEq] at hu;obtain⟨p,rfl,rfl,rfl,_⟩:=hu
      obtain⟨o,n,vH⟩:=P8 nM
      refine⟨?_,x, ?_,.inr (.inr (.inr (.inr ⟨o,n,vH⟩)))⟩
      ·obtain⟨callee,args,tN⟩:=c
       simp only at hc
       subst hc;rfl
      ·simp only[Op.operands,Call.operands,hc];simp
       rw[<- Array.mem_toList_iff,hx];simp
   ·cases h
  ·cases h
 case store T x y =>
  simp only[cZ] at h;cases hs:pZ P st T (st.ev x) (st.ev y) with
  | none=>simp[hs] at h
  | some u =>
    obtain⟨s,g,e'⟩:=u
    simp only[hs,Option.map_some,Option.some.injEq] at h;subst h;refine⟨rfl,fun d x h=>by simp at h,fun s' g' x' hu=>⟨rfl,x,by simp[Op.operands],.inl ?_⟩⟩
    simp only[Option.some.injEq,Prod.mk.injEq] at hu;obtain⟨rfl,rfl,_⟩:=hu
    unfold pZ at hs;split at hs
    ·rename_i s1 g1 o1 hp;refine⟨o1, ?_⟩
     rw[hp];split at hs
     ·split at hs
      ·split at hs
       ·split at hs
        ·simp only[Option.some.injEq,Prod.mk.injEq] at hs;rw[hs.1,hs.2.1]
        ·cases hs
       ·split at hs
        ·simp only[Option.some.injEq,Prod.mk.injEq] at hs;rw[hs.1,hs.2.1]
        ·cases hs
       ·cases hs
      ·cases hs
     ·cases hs
    ·cases hs
 case alloc T =>
  simp only[cZ] at h;cases dst with
  | none=>simp[cA] at h
  | some d=>cases hz:dU P T with
    | none=>simp[hz,cA] at h
    | some z=>simp only[hz,cA,Option.some.injEq] at h;subst h;exact⟨rfl,fun d x h=>by simp at h;rw[h.1],fun s g x h=>by simp at h⟩
 case box T x =>
  simp only[cZ] at h;cases dst with
  | none=>simp[cA] at h
  | some d =>
    simp only[cA] at h;split at h
    ·simp only[Option.some.injEq] at h;subst h;exact⟨rfl,fun d x h=>by simp at h;rw[h.1],fun s g x h=>by simp at h⟩
    ·cases h
 case buildSlice T n parts =>
  simp only[cZ] at h;cases dst with
  | none=>simp[cA] at h
  | some d=>cases hs:dI P T with
    | none=>simp[hs,cA] at h
    | some t=>cases hz:dU P t.1 with
      | none=>simp[hs,hz,cA] at h
      | some z =>
        simp only[hs,hz,cA] at h;split at h
        ·cases hf:gM (fun i=>some (i * t.2.1,t.2.1)) ((List.range n).flatMap fun _=>z.map .v) (parts.toList.map fun p=>(p.1,st.ev p.2)) with
         | none=>simp[hf] at h
         | some cs=>simp only[hf,Option.some.injEq] at h;subst h;exact⟨rfl,fun d x h=>by simp at h;rw[h.1],fun s g x h=>by simp at h⟩
        ·cases h
 case makeSlice T l c =>
  simp only[cZ] at h;cases dst with
  | none=>simp[cA] at h
  | some d=>cases hs:dI P T with
    | none=>simp[hs,cA] at h
    | some t=>cases hz:dU P t.1 with
      | none=>simp[hs,hz,cA] at h
      | some z =>
        simp only[hs,hz,cA] at h;split at h
        ·split at h
         ·simp only[Option.some.injEq] at h;subst h;exact⟨rfl,fun d x h=>by simp at h;rw[h.1],fun s g x h=>by simp at h⟩
         ·cases h
        ·cases h
 case makeMap T r =>
  cases r with
  | none =>
    simp only[cZ] at h;cases dst with
    | none=>simp[cA] at h
    | some d=>simp only[cA,Option.some.injEq] at h;subst h;exact⟨rfl,fun d x h=>by simp at h;rw[h.1],fun s g x h=>by simp at h⟩
  | some r =>
    simp only[cZ] at h;obtain⟨h1,h2,h3⟩:=val _ h
    exact⟨h1,h2,fun s g x hu=>absurd hu (h3 s g x)⟩
 case mapUpdate T m x y =>
  simp only[cZ] at h;cases hs:uG P st T (st.ev m) (st.ev x) (st.ev y) with
  | none=>simp[hs] at h
  | some u =>
    obtain⟨s,g,e'⟩:=u
    simp only[hs,Option.map_some,Option.some.injEq] at h;subst h;refine⟨rfl,fun d x h=>by simp at h,fun s' g' x' hu=>⟨rfl,m,by simp[Op.operands],.inr (.inr (.inl ?_))⟩⟩
    simp only[Option.some.injEq,Prod.mk.injEq] at hu;obtain⟨rfl,rfl,_⟩:=hu
    unfold uG at hs;split at hs
    ·rename_i s1 g1 hp;rw[hp];split at hs
     ·split at hs
      ·simp only[Option.some.injEq,Prod.mk.injEq] at hs;rw[hs.1,hs.2.1]
      ·cases hs
     ·cases hs
    ·cases hs
 all_goals
  simp only[cZ] at h;obtain⟨h1,h2,h3⟩:=val _ h
  exact⟨h1,h2,fun s g x hu=>absurd hu (h3 s g x)⟩
noncomputable def sK (P:Program) (call:Nat->List AV->Option AV) (ops:Array Oper) (o:Oper) (st:St):Option mA :=
 match gv ops st o.guard with
 | some b=>if b=true then cZ P call o st else some { dst:=o.dst,val:=.v undef }
 | none=>none
theorem Gt (o:Oper):cE P call ops o st=(sK P call ops o st).map fun e=>e.apply st:=by
 unfold cE sK;cases gv ops st o.guard with
 | none=>rfl
 | some b=>cases b<;>rfl
theorem pA {o:Oper} {e:mA} (h:sK P call ops o st=some e) :
 e.dst=o.dst/\(∀d x,e.new=some (d,x)->o.dst=some d)/\(∀s g x,e.dG=some (s,g,x)->mQ ops o=3/\∃p∈o.op.operands,(∃off,st.ev p=.ptr s g off)\/st.ev p=.own s g\/st.ev p=.mp s g\/(∃cs,st.ev p=.agg cs/\.own s g∈cs)\/∃o n,st.ev p=.vw s g o n):=by
 unfold sK at h;split at h
 ·split at h
  ·exact SP h
  ·simp only[Option.some.injEq] at h;subst h;exact⟨rfl,fun d x h=>by simp at h,fun s g x h=>by simp at h⟩
 ·cases h
theorem Wj (hp:CE st) {x y:Oper} {ex:mA} (nM:tD ops x y=true\/tD ops y x=true) (Ob:∀t,mF st.aK (st.env t)) (hx:sK P call ops x st=some ex) :
 sK P call ops y (ex.apply st)=sK P call ops y st:=by
 obtain⟨sd,sn,su⟩:=pA hx
 have G0:(∀d,x.dst=some d->d ∉ y.looksAt ops)/\(∀d,x.dst=some d->y.dst≠some d):=by
  rcases nM with h|h
  ·simp only[tD,Bool.and_eq_true] at h;obtain⟨h1,h2,_⟩:=Oper.apart_spec h.1
   exact⟨h1,h2⟩
  ·simp only[tD,Bool.and_eq_true] at h;obtain⟨_,h2,h3⟩:=Oper.apart_spec h.1
   exact⟨h3,fun d hd hy=>h2 d hy hd⟩
 have henv:∀t,t∈y.looksAt ops->(ex.apply st).env t=st.env t:=fun t ht=>by
  rw[oQ,if_neg];intro h;rw[sd] at h;exact G0.1 t h ht
 have EL:∀p∈y.op.operands,(ex.apply st).ev p=st.ev p:=fun p hp=>by
  cases p with
  | tmp t=>exact henv t (by unfold Oper.looksAt;exact List.mem_append_left _ (List.mem_filterMap.2 ⟨.tmp t,by simpa using hp,rfl⟩))
  | _=>rfl
 have hgv:gv ops (ex.apply st) y.guard=gv ops st y.guard:=aB8 fun j want d hg hd=>henv d (by
  unfold Oper.looksAt;apply List.mem_append_right
  rw[hg];simp[hd])
 have hcnt:∀d,y.dst=some d->(ex.apply st).aK d=st.aK d:=fun d hd=>by
  rw[lH];split
  ·rename_i d' z hn
   have:=sn d' z hn
   rw[if_neg];rintro rfl
   exact G0.2 d this hd
  ·rfl
 have Xj:∀p∈y.op.operands,mF st.aK (st.ev p):=fun p hp=>by
  cases p with
  | tmp t=>exact Ob t
  | const v=>exact⟨⟨fun _ _=>False,fun _ _=>undef,st.aK⟩,v,rfl,.v v⟩
  | global g=>exact⟨⟨fun _ _=>False,fun _ _=>undef,st.aK⟩,_,rfl,.v _⟩
  | func f=>exact⟨⟨fun _ _=>False,fun _ _=>undef,st.aK⟩,_,rfl,.v _⟩
 have pX:cZ P call y (ex.apply st)=cZ P call y st:=by
  by_cases h3:mQ ops x=3
  ·refine MB (ops:=ops) ?_ EL hcnt
   have hle:mQ ops y=0\/mQ ops y=1\/mQ ops y=2\/mQ ops y=3\/mQ ops y=4:=by
    unfold mQ;split<;>(try split)<;>(try split)<;>(try split)<;>simp
   rcases nM with h|h<;>simp only[tD,Bool.and_eq_true,h3] at h<;>rcases hle with e|e|e|e|e<;>simp[e] at h ⊢
  ·have hnu:ex.dG=none:=by
    cases hu:ex.dG with
    | none=>rfl
    | some sgx=>exact absurd (su sgx.1 sgx.2.1 sgx.2.2 hu).1 h3
   refine SO hp EL Xj (fun s g aZ=>?_) hcnt
   rw[tO,hnu];split
   ·rename_i d z hn;rw[if_neg];rintro⟨rfl,h,_⟩
    omega
   ·rfl
 unfold sK;rw[hgv,pX]
theorem MD {o:Oper} {e:mA} {s g:Nat} {z:Option jC} (Ob:∀t,mF st.aK (st.env t)) (h:sK P call ops o st=some e) (hu:e.dG=some (s,g,z)):g<st.aK s:=by
 obtain⟨_,_,su⟩:=pA h
 obtain⟨_,p,hp,hv⟩:=su s g z hu
 have Xj:mF st.aK (st.ev p):=by
  cases p with
  | tmp t=>exact Ob t
  | const v=>exact⟨⟨fun _ _=>False,fun _ _=>undef,st.aK⟩,v,rfl,.v v⟩
  | global g=>exact⟨⟨fun _ _=>False,fun _ _=>undef,st.aK⟩,_,rfl,.v _⟩
  | func f=>exact⟨⟨fun _ _=>False,fun _ _=>undef,st.aK⟩,_,rfl,.v _⟩
 rcases hv with ⟨off,hv⟩|hv|hv|⟨cs,hv,hm⟩|⟨o,n,hv⟩
 ·rw[hv] at Xj;exact Xj.ptr
 ·rw[hv] at Xj;exact Xj.own
 ·rw[hv] at Xj;exact Xj.mp
 ·rw[hv] at Xj;exact (Xj.agg _ hm).own
 ·rw[hv] at Xj;exact Xj.vw
theorem aE9 (hp:CE st) {x y:Oper} (nM:tD ops x y=true) (Ob:∀t,mF st.aK (st.env t)) {s1 s2:St} (hx:cE P call ops x st=some s1) (hy:cE P call ops y s1=some s2) :
 ∃s3,cE P call ops y st=some s3/\cE P call ops x s3=some s2:=by
 rw[Gt] at hx hy;cases hex:sK P call ops x st with
 | none=>simp[hex] at hx
 | some ex =>
   simp only[hex,Option.map_some,Option.some.injEq] at hx;subst hx;rw[Wj hp (.inl nM) Ob hex] at hy;cases G1:sK P call ops y st with
   | none=>simp[G1] at hy
   | some ey =>
     simp only[G1,Option.map_some,Option.some.injEq] at hy;subst hy;refine⟨ey.apply st,by rw[Gt,G1];rfl, ?_⟩
     rw[Gt,Wj hp (.inr nM) Ob G1,hex];simp only[Option.map_some,Option.some.injEq];obtain⟨dx,nx,ux⟩:=pA hex
     obtain⟨dy,ny,uy⟩:=pA G1
     have hd:∀d,x.dst=some d->y.dst≠some d:=by
      simp only[tD,Bool.and_eq_true] at nM;exact (Oper.apart_spec nM.1).2.1
     have Bl:¬(ex.dG≠none/\ey.dG≠none):=by
      rintro⟨h1,h2⟩
      cases hu:ex.dG with
      | none=>exact h1 hu
      | some a=>cases hv:ey.dG with
        | none=>exact h2 hv
        | some b =>
          have e1:=(ux a.1 a.2.1 a.2.2 hu).1
          have e2:=(uy b.1 b.2.1 b.2.2 hv).1
          simp[tD,e1,e2] at nM
     apply aB9
     ·funext t
      rw[oQ,oQ,oQ,oQ,dx,dy];by_cases h1:x.dst=some t
      ·rw[if_pos h1,if_pos h1,if_neg (hd t h1)]
      ·rw[if_neg h1,if_neg h1]
     ·funext s g
      rw[tO,tO,tO,tO];have cx:∀d z,ey.new=some (d,z)->(ex.apply st).aK d=st.aK d:=fun d z hn=>by
       rw[lH];split
       ·rename_i d' z' Kk
        rw[if_neg];rintro rfl
        exact hd _ (nx _ _ Kk) (ny _ _ hn)
       ·rfl
      have cy:∀d z,ex.new=some (d,z)->(ey.apply st).aK d=st.aK d:=fun d z hn=>by
       rw[lH];split
       ·rename_i d' z' Kk
        rw[if_neg];rintro rfl
        exact hd _ (nx _ _ hn) (ny _ _ Kk)
       ·rfl
      cases P9:ex.new with
      | none =>
        cases WL:ey.new with
        | none =>
          cases hux:ex.dG with
          | none=>rfl
          | some a=>cases huy:ey.dG with
            | none=>rfl
            | some b=>exact absurd ⟨by rw[hux];simp,by rw[huy];simp⟩ Bl
        | some b =>
          obtain⟨d,z⟩:=b
          simp only[cx d z WL];cases hux:ex.dG with
          | none=>rfl
          | some a =>
            obtain⟨s0,g0,e0⟩:=a
            have aZ:=MD Ob hex hux
            cases huy:ey.dG with
            | none =>
              simp only
              by_cases h1:s=d/\st.aK d<=g/\g-st.aK d<z.length
              ·rw[if_neg (by obtain⟨rfl,ha,hb⟩:=h1;rintro⟨rfl,rfl⟩;omega),if_pos h1,if_pos h1]
              ·rw[if_neg h1,if_neg h1]
            | some b=>exact absurd ⟨by rw[hux];simp,by rw[huy];simp⟩ Bl
      | some a =>
        obtain⟨d,z⟩:=a
        cases WL:ey.new with
        | none =>
          simp only[cy d z P9];cases huy:ey.dG with
          | none=>rfl
          | some a =>
            obtain⟨s0,g0,e0⟩:=a
            have aZ:=MD Ob G1 huy
            cases hux:ex.dG with
            | none =>
              simp only
              by_cases h1:s=d/\st.aK d<=g/\g-st.aK d<z.length
              ·rw[if_pos h1,if_neg (by obtain⟨rfl,ha,hb⟩:=h1;rintro⟨rfl,rfl⟩;omega),if_pos h1]
              ·rw[if_neg h1,if_neg h1]
            | some b=>exact absurd ⟨by rw[hux];simp,by rw[huy];simp⟩ Bl
        | some b =>
          obtain⟨d',z'⟩:=b
          simp only[cy d z P9,cx d' z' WL];have Q0:d≠d':=by
           rintro rfl
           exact hd _ (nx _ _ P9) (ny _ _ WL)
          cases hux:ex.dG with
          | none =>
            cases huy:ey.dG with
            | none =>
              simp only
              by_cases h1:s=d/\st.aK d<=g/\g-st.aK d<z.length
              ·rw[if_pos h1,if_pos h1,if_neg (fun h=>Q0 (h1.1.symm.trans h.1))]
              ·rw[if_neg h1,if_neg h1]
            | some b =>
              obtain⟨s0,g0,e0⟩:=b
              have aZ:=MD Ob G1 huy
              simp only
              by_cases h1:s=d/\st.aK d<=g/\g-st.aK d<z.length
              ·rw[if_pos h1,if_pos h1,if_neg (fun h=>Q0 (h1.1.symm.trans h.1)),if_neg (by obtain⟨rfl,ha,hb⟩:=h1;rintro⟨rfl,rfl⟩;omega)]
              ·rw[if_neg h1,if_neg h1]
          | some a =>
            obtain⟨s0,g0,e0⟩:=a
            have aZ:=MD Ob hex hux
            cases huy:ey.dG with
            | none =>
              simp only
              by_cases h1:s=d/\st.aK d<=g/\g-st.aK d<z.length
              ·rw[if_pos h1,if_pos h1,if_neg (fun h=>Q0 (h1.1.symm.trans h.1))]
              ·rw[if_neg h1,if_neg h1];by_cases h2:s=d'/\st.aK d'<=g/\g-st.aK d'<z'.length
               ·rw[if_pos h2,if_neg (by obtain⟨rfl,ha,hb⟩:=h2;rintro⟨rfl,rfl⟩;omega),if_pos h2]
               ·rw[if_neg h2,if_neg h2]
            | some b=>exact absurd ⟨by rw[hux];simp,by rw[huy];simp⟩ Bl
     ·funext s
      cases P9:ex.new with
      | none=>cases WL:ey.new<;>simp only[lH,P9,WL]
      | some a =>
        obtain⟨d,z⟩:=a
        cases WL:ey.new with
        | none=>simp only[lH,P9,WL]
        | some b =>
          obtain⟨d',z'⟩:=b
          have Q0:d≠d':=by
           rintro rfl
           exact hd _ (nx _ _ P9) (ny _ _ WL)
          simp only[lH,P9,WL];rw[if_neg Q0,if_neg (Ne.symm Q0)];by_cases h1:s=d
          ·subst h1;rw[if_neg Q0,if_pos rfl,if_neg Q0]
          ·rw[if_neg h1,if_neg h1]
def Jo (st st':St) (x:AV):Prop:=∀s g,keyOf x=some (some (s,g))->st'.heap s g=st.heap s g
theorem ZS {x:AV} (h:Jo st st' x):qP st' x=qP st x:=by
 cases x<;>simp only[qP]
 rw[h _ _ rfl]
theorem xB {x:AV} (h:Jo st st' x):aQ st' x=aQ st x:=by
 cases x
 case own=>simp only[aQ,h _ _ rfl]
 case vw=>simp only[aQ,h _ _ rfl]
 case v y =>
  cases y
  case slice p n c=>cases p<;>cases n<;>cases c<;>rfl
  all_goals rfl
 all_goals rfl
theorem CH {T:Nat} {x i:AV} (h:Jo st st' x):bE P st' T x i=bE P st T x i:=by
 unfold bE;cases x<;>try rfl
 simp only[h _ _ rfl]
theorem ZT {T:Nat} {x y:AV} (h:Jo st st' x):pZ P st' T x y=pZ P st T x y:=by
 unfold pZ;cases x<;>try rfl
 simp only[h _ _ rfl]
theorem ZU {T:Nat} {x:AV} {lo hi:Option Operand} (hx:Jo st st' x) (hl:∀p,lo=some p->st'.ev p=st.ev p) (Dm:∀p,hi=some p->st'.ev p=st.ev p):dA P st' T x lo hi=dA P st T x lo hi :=
 CD (fun s g h=>by
  rcases h with ⟨o,rfl⟩|rfl|⟨o,n,rfl⟩<;>exact hx _ _ rfl) hl Dm
theorem SQ {T:Nat} {s x:AV} (hs:Jo st st' s) (hx:Jo st st' x):cY P st' T s x=cY P st T s x:=by
 unfold cY;rw[xB hx];cases s
 case own=>simp only[hs _ _ rfl]
 case v y =>
  cases y
  case slice p n c=>cases p<;>cases n<;>cases c<;>rfl
  all_goals rfl
 all_goals rfl
theorem SR {T:Nat} {s x:AV} (hs:Jo st st' s) (hx:Jo st st' x):mY P st' T s x=mY P st T s x:=by
 unfold mY;rw[xB hx];cases dI P T with
 | none=>rfl
 | some t=>cases aQ st x with
   | none=>rfl
   | some mn =>
     cases s<;>try rfl
     case vw s g o n =>
      cases o with
      | zero=>simp only[hs _ _ rfl]
      | succ o=>rfl
theorem ZV {r:AV} {dst:Option Nat} (hc:∀d,dst=some d->st'.aK d=st.aK d):iG r st' dst=iG r st dst:=by
 unfold iG;cases dst with
 | none=>rfl
 | some d=>simp only[hc d rfl]
theorem ZW {g:Nat} {x:AV} {args:List AV} {dst:Option Nat} (hx:Jo st st' x) (hc:∀d,dst=some d->st'.aK d=st.aK d):kN call g (x :: args) st' dst=kN call g (x :: args) st dst:=by
 unfold kN;split
 ·rename_i s k rest heq;simp only[List.cons.injEq] at heq;obtain⟨rfl,rfl⟩:=heq
  rw[hx _ _ rfl];cases dst with
  | none=>rfl
  | some d=>simp only[hc d rfl]
 ·split
  ·rename_i hf;unfold aN;rw[if_pos hf,if_pos hf];have h2:∀r,iG r st' dst=iG r st dst:=fun r=>ZV hc
   simp only[h2]
  ·rfl
theorem FR {o:Oper} {aS:List Nat} (h:gJ o=some aS):o.guard=none:=by
 unfold gJ at h;split at h
 ·cases h
 ·assumption
theorem ME {o:Oper} {aS:List Nat} (ha:gJ o=some aS):sK P call ops o st=cZ P call o st:=by
 unfold sK;rw[FR ha];rfl
inductive Wk:Op->List Nat->Prop
 | load (T a:Nat):Wk (.load T (.tmp a)) [a]
 | store (T a:Nat) (x:Operand):Wk (.store T (.tmp a) x) [a]
 | indexAddr (T a:Nat) (x:Operand):Wk (.indexAddr T (.tmp a) x) [a]
 | slice (T a:Nat) (lo hi mx:Option Operand):Wk (.slice T (.tmp a) lo hi mx) [a]
 | len (a:Nat) (args:Array Operand) (tN:Array Nat) (h:args.toList=[.tmp a]):Wk (.call ⟨.builtin .len,args,tN⟩) [a]
 | append (a b:Nat) (args:Array Operand) (tN:Array Nat) (h:args.toList=[.tmp a,.tmp b]):Wk (.call ⟨.builtin .append,args,tN⟩) [a,b]
 | mv (g a:Nat) (r:List Operand) (args:Array Operand) (tN:Array Nat) (h:args.toList=.tmp a :: r) (hg:Ext.mv g=true):Wk (.call ⟨.value (.func g),args,tN⟩) [a]
theorem Rm {o:Oper} {aS:List Nat} (h:gJ o=some aS):Wk o.op aS:=by
 unfold gJ at h;split at h
 ·cases h
 ·split at h
  ·rename_i T a ho;simp only[Option.some.injEq] at h;subst h;rw[ho];exact .load T a
  ·rename_i T a x ho;simp only[Option.some.injEq] at h;subst h;rw[ho];exact .store T a x
  ·rename_i T a x ho;simp only[Option.some.injEq] at h;subst h;rw[ho];exact .indexAddr T a x
  ·rename_i T a lo hi mx ho;simp only[Option.some.injEq] at h;subst h;rw[ho];exact .slice T a lo hi mx
  ·rename_i args tN ho;split at h
   ·rename_i a hl;simp only[Option.some.injEq] at h;subst h;rw[ho];exact .len a args tN hl
   ·cases h
  ·rename_i args tN ho;split at h
   ·rename_i a b hl;simp only[Option.some.injEq] at h;subst h;rw[ho];exact .append a b args tN hl
   ·cases h
  ·rename_i g args tN ho;split at h
   ·rename_i a r hl;split at h
    ·rename_i hg;simp only[Option.some.injEq] at h;subst h;rw[ho];exact .mv g a r args tN hl hg
    ·cases h
   ·cases h
  ·cases h
theorem Q1 {T s g:Nat} {p x:AV} {e':jC} (hs:pZ P st T p x=some (s,g,e')):∃o,p=.ptr s g o:=by
 unfold pZ at hs;split at hs
 ·rename_i s1 g1 o1;split at hs
  ·split at hs
   ·split at hs
    ·split at hs
     ·simp only[Option.some.injEq,Prod.mk.injEq] at hs;obtain⟨rfl,rfl,_⟩:=hs;exact⟨_,rfl⟩
     ·cases hs
    ·split at hs
     ·simp only[Option.some.injEq,Prod.mk.injEq] at hs;obtain⟨rfl,rfl,_⟩:=hs;exact⟨_,rfl⟩
     ·cases hs
    ·cases hs
   ·cases hs
  ·cases hs
 ·cases hs
theorem ZX {T s g:Nat} {p x:AV} {r:jC} (nM:cY P st T p x=some (some (s,g),r)):p=.own s g:=by
 unfold cY at nM;split at nM
 ·split at nM
  ·split at nM
   ·split at nM
    ·split at nM<;>simp at nM
    ·rename_i s3 g3;split at nM
     ·split at nM
      ·simp only[Option.some.injEq,Prod.mk.injEq] at nM;obtain⟨⟨rfl,rfl⟩,_⟩:=nM
       rfl
      ·cases nM
     ·cases nM
    ·split at nM<;>simp at nM
    ·cases nM
   ·cases nM
  ·cases nM
 ·cases nM
theorem Um {o:Oper} {aS:List Nat} {e:mA} (ha:gJ o=some aS) (h:sK P call ops o st=some e) :
 ∀s g z,e.dG=some (s,g,z)->∃a∈aS,keyOf (st.env a)=some (some (s,g)):=by
 rw[ME ha] at h;have hk:=Rm ha
 clear ha
 obtain⟨dst,op,type,pos,after,guard⟩:=o
 have val:∀(v:Option AV),(v.map fun x=>({ dst:=dst,val:=x }:mA))=some e->e.dG=none:=fun v hv=>by
  cases v with
  | none=>cases hv
  | some v=>simp only[Option.map_some,Option.some.injEq] at hv;subst hv;rfl
 intro s g z hu;cases hk
 case load T a=>simp only[cZ] at h;rw[val _ h] at hu;cases hu
 case indexAddr T a x=>simp only[cZ] at h;rw[val _ h] at hu;cases hu
 case slice T a lo hi mx=>simp only[cZ] at h;rw[val _ h] at hu;cases hu
 case len a args tN hl =>
  simp only[cZ,hU,hl] at h;split at h
  ·split at h
   ·simp only[Option.some.injEq] at h;subst h;cases hu
   ·cases h
  ·cases h
 case store T a x =>
  simp only[cZ] at h;cases hs:pZ P st T (st.ev (.tmp a)) (st.ev x) with
  | none=>simp[hs] at h
  | some u =>
    obtain⟨s',g',e'⟩:=u
    simp only[hs,Option.map_some,Option.some.injEq] at h;subst h;simp only[Option.some.injEq,Prod.mk.injEq] at hu;obtain⟨rfl,rfl,_⟩:=hu
    obtain⟨o1,ho1⟩:=Q1 hs
    exact⟨a,by simp,by rw[show st.env a=st.ev (.tmp a) from rfl,ho1];rfl⟩
 case append a b args tN hl =>
  simp only[cZ,hU,hl] at h;cases dst with
  | none=>simp[cA] at h
  | some d =>
    simp only[cA] at h;split at h
    ·rename_i s0 x0 T T' heq _
     simp only[List.cons.injEq,and_true] at heq;obtain⟨rfl,rfl⟩:=heq
     split at h
     ·split at h
      ·cases nM:mY P st T (st.ev (.tmp a)) (st.ev (.tmp b)) with
       | none=>simp[nM] at h
       | some u =>
       simp only[nM,Option.map_some,Option.some.injEq] at h;subst h;simp only[Option.some.injEq,Prod.mk.injEq] at hu;obtain⟨rfl,rfl,rfl⟩:=hu
       obtain⟨n0,vH⟩:=CG nM
       exact⟨a,by simp,by rw[show st.env a=st.ev (.tmp a) from rfl,vH];rfl⟩
      split at h
      ·simp only[Option.some.injEq] at h;subst h;cases hu
      cases nM:cY P st T (st.ev (.tmp a)) (st.ev (.tmp b)) with
      | none=>simp[nM] at h
      | some ur =>
        obtain⟨u,r⟩:=ur
        simp only[nM,Option.some.injEq] at h;subst h;cases u with
        | none=>cases hu
        | some p =>
          simp only[Option.map_some,Option.some.injEq,Prod.mk.injEq] at hu;obtain⟨rfl,rfl,_⟩:=hu
          exact⟨a,by simp,by rw[show st.env a=st.ev (.tmp a) from rfl,ZX nM];rfl⟩
     ·cases h
    ·cases h
 case mv g' a r args tN hl hg =>
  simp only[cZ,hU,mP] at h;rw[if_pos hg] at h;obtain⟨_,_,h3⟩:=Rl h
  have:=h3 s g z hu
  rw[hl] at this;simp only[List.map_cons,List.head?_cons,Option.some.injEq,St.ev] at this;exact⟨a,by simp,by rw[this];rfl⟩
theorem mem_congr {o:Oper} {aS:List Nat} (ha:gJ o=some aS) (EL:∀p∈o.op.operands,st'.ev p=st.ev p) (hh:∀a∈aS,Jo st st' (st.env a)) (hc:∀d,o.dst=some d->st'.aK d=st.aK d) :
 sK P call ops o st'=sK P call ops o st:=by
 rw[ME ha,ME ha];have hk:=Rm ha
 clear ha
 obtain⟨dst,op,type,pos,after,guard⟩:=o
 simp only at hk EL hc
 cases hk
 case load T a =>
  have h1:st'.env a=st.env a:=EL (.tmp a) (by simp[Op.operands])
  simp only[cZ,iP,St.ev,h1,ZS (hh a (by simp))]
 case store T a x =>
  have h1:st'.env a=st.env a:=EL (.tmp a) (by simp[Op.operands])
  have h2:=EL x (by simp[Op.operands])
  have h3:st'.ev (.tmp a)=st.ev (.tmp a):=h1
  simp only[cZ,h2,h3];rw[show st.ev (.tmp a)=st.env a from rfl,ZT (hh a (by simp))]
 case indexAddr T a x =>
  have h1:st'.env a=st.env a:=EL (.tmp a) (by simp[Op.operands])
  have h2:=EL x (by simp[Op.operands])
  have h3:st'.ev (.tmp a)=st.ev (.tmp a):=h1
  simp only[cZ,iP,h2,h3];rw[show st.ev (.tmp a)=st.env a from rfl,CH (hh a (by simp))]
 case slice T a lo hi mx =>
  have h1:st'.env a=st.env a:=EL (.tmp a) (by simp[Op.operands])
  have h3:st'.ev (.tmp a)=st.ev (.tmp a):=h1
  have hl:∀p,lo=some p->st'.ev p=st.ev p:=fun p hp=>EL p (by subst hp;simp[Op.operands])
  have Dm:∀p,hi=some p->st'.ev p=st.ev p:=fun p hp=>EL p (by subst hp;simp[Op.operands])
  have hm:∀p,mx=some p->st'.ev p=st.ev p:=fun p hp=>EL p (by subst hp;simp[Op.operands])
  have hS:=ZU (P:=P) (T:=T) (hh a (by simp)) hl Dm
  cases mx with
  | none =>
    simp only[cZ,iP,h3];rw[show st.ev (.tmp a)=st.env a from rfl,hS]
  | some m =>
    cases hi with
    | none=>rfl
    | some h =>
      simp only[cZ,iP,h3];rw[Wi (fun s g hx=>hh a (by simp) s g (by rw[show st.env a=st.ev (.tmp a) from rfl,hx];rfl)) hl (Dm h rfl) (hm m rfl)]
 case len a args tN hl =>
  have h1:st'.env a=st.env a:=EL (.tmp a) (by simp[Op.operands,Call.operands,<- Array.mem_toList_iff,hl])
  have h3:st'.ev (.tmp a)=st.ev (.tmp a):=h1
  have hv:aQ st' (st'.ev (.tmp a))=aQ st (st.ev (.tmp a)):=by rw[h3];exact xB (hh a (by simp))
  simp only[cZ,hU,hl];cases tN.toList with
  | nil=>rfl
  | cons T r=>cases r with
    | nil=>simp only[hv]
    | cons _ _=>rfl
 case append a b args tN hl =>
  have h1:st'.ev (.tmp a)=st.ev (.tmp a):=EL (.tmp a) (by simp[Op.operands,Call.operands,<- Array.mem_toList_iff,hl])
  have h2:st'.ev (.tmp b)=st.ev (.tmp b):=EL (.tmp b) (by simp[Op.operands,Call.operands,<- Array.mem_toList_iff,hl])
  have hV:∀T,mY P st' T (st.ev (.tmp a)) (st.ev (.tmp b))=mY P st T (st.ev (.tmp a)) (st.ev (.tmp b)):=fun T=>SR (hh a (by simp)) (hh b (by simp))
  have hA:∀T,cY P st' T (st.ev (.tmp a)) (st.ev (.tmp b))=cY P st T (st.ev (.tmp a)) (st.ev (.tmp b)):=fun T=>SQ (hh a (by simp)) (hh b (by simp))
  simp only[cZ,hU,hl];cases dst with
  | none=>rfl
  | some d =>
    simp only[cA,hc d rfl];cases tN.toList with
    | nil=>rfl
    | cons T r=>cases r with
      | nil=>rfl
      | cons T' r'=>cases r' with
        | nil =>
          have hn:Cr P st' T (st'.ev (.tmp a)) (st'.ev (.tmp b))=Cr P st T (st.ev (.tmp a)) (st.ev (.tmp b)):=by
           have h3:aQ st' (st.ev (.tmp b))=aQ st (st.ev (.tmp b)):=xB (hh b (by simp))
           simp only[Cr,h1,h2,h3]
          simp only[];rw[hn,h1,h2,hA,hV]
        | cons _ _=>rfl
 case mv g' a r args tN hl hg =>
  have he:∀p∈args.toList,st'.ev p=st.ev p:=fun p hp=>EL p (by simp[Op.operands,Call.operands,<- Array.mem_toList_iff,hp])
  have h1:args.toList.map st'.ev=args.toList.map st.ev:=List.map_congr_left he
  simp only[cZ,hU,mP];rw[if_pos hg,if_pos hg,h1,hl];simp only[List.map_cons];exact ZW (hh a (by simp)) hc
theorem aCb {x y:AV} (h:fD x y\/fD y x) {k k':Nat × Nat} (hx:keyOf x=some (some k)) (hy:keyOf y=some (some k')):k≠k':=by
 unfold fD at h;rw[hx,hy] at h;rcases h with h|h
 ·exact h
 ·exact fun e=>h e.symm
theorem aCc {aK:Nat->Nat} {x:AV} {s g:Nat} (h:mF aK x) (hk:keyOf x=some (some (s,g))):g<aK s:=by
 cases x<;>simp only[keyOf,Option.some.injEq,Prod.mk.injEq,reduceCtorEq] at hk
 ·obtain⟨rfl,rfl⟩:=hk;exact h.ptr
 ·obtain⟨rfl,rfl⟩:=hk;exact h.own
 ·obtain⟨rfl,rfl⟩:=hk;exact h.vw
theorem JC {x y:Oper} {aS bs:List Nat} {ex:mA} (Ob:∀t,mF st.aK (st.env t)) (hax:gJ x=some aS) (hay:gJ y=some bs) (G0:∀d,x.dst=some d->d ∉ y.looksAt ops) (lE:∀d,x.dst=some d->y.dst≠some d)
 (hf:∀a∈aS,∀b∈bs,fD (st.env a) (st.env b)\/fD (st.env b) (st.env a)) (hx:sK P call ops x st=some ex):sK P call ops y (ex.apply st)=sK P call ops y st:=by
 obtain⟨sd,sn,_⟩:=pA hx
 have su:=Um hax hx
 refine mem_congr hay (fun p hp=>?_) (fun b hb s g hk=>?_) fun d hd=>?_
 ·cases p with
  | tmp t =>
    show (ex.apply st).env t=st.env t
    rw[oQ,if_neg];intro h;rw[sd] at h;exact G0 t h (by unfold Oper.looksAt;exact List.mem_append_left _ (List.mem_filterMap.2 ⟨.tmp t,by simpa using hp,rfl⟩))
  | _=>rfl
 ·have aZ:=aCc (Ob b) hk
  have hupd:(match ex.dG with|some (s0,g0,y)=>if s=s0/\g=g0 then y else st.heap s g|none=>st.heap s g)=st.heap s g:=by
   cases hu:ex.dG with
   | none=>rfl
   | some u =>
     obtain⟨s0,g0,z⟩:=u
     obtain⟨a,ha,hka⟩:=su s0 g0 z hu
     simp only
     rw[if_neg];rintro⟨rfl,rfl⟩
     exact aCb (hf a ha b hb) hka hk rfl
  rw[tO];split
  ·rename_i d es hn;rw[if_neg (by rintro⟨rfl,h,_⟩;omega)]
   exact hupd
  ·exact hupd
 ·rw[lH];split
  ·rename_i d' z hn
   rw[if_neg];rintro rfl
   exact lE _ (sn _ _ hn) hd
  ·rfl
theorem aCd {α:Type} {A B C D:Prop} [Decidable A] [Decidable B] [Decidable C] [Decidable D] {na nb uc ud h:α} (h1:A->¬B) (h2:A->¬D) (h3:C->¬B) (h4:C->¬D) :
 (if B then nb else if D then ud else if A then na else if C then uc else h)=(if A then na else if C then uc else if B then nb else if D then ud else h):=by
 by_cases a:A
 ·rw[if_neg (h1 a),if_neg (h2 a),if_pos a,if_pos a]
 ·rw[if_neg a,if_neg a];by_cases c:C
  ·rw[if_neg (h3 c),if_neg (h4 c),if_pos c,if_pos c]
  ·rw[if_neg c,if_neg c]
def Un (e:mA) (aK:Nat->Nat) (s g:Nat):Prop:=∃d es,e.new=some (d,es)/\s=d/\aK d<=g/\g-aK d<es.length
def ZY (e:mA) (s g:Nat):Prop:=∃z,e.dG=some (s,g,z)
def Jp (e:mA) (aK:Nat->Nat) (g:Nat):Option jC:=match e.new with|some (d,es)=>es[g-aK d]? | none=>none
def j8 (e:mA):Option jC:=match e.dG with|some (_,_,z)=>z|none=>none
theorem Cj (e:mA) (st:St) (s g:Nat):(e.apply st).heap s g=if Un e st.aK s g then Jp e st.aK g else if ZY e s g then j8 e else st.heap s g:=by
 have hu:(match e.dG with|some (s0,g0,y)=>if s=s0/\g=g0 then y else st.heap s g|none=>st.heap s g)=if ZY e s g then j8 e else st.heap s g:=by
  unfold ZY j8;cases hu:e.dG with
  | none=>simp
  | some u =>
    obtain⟨s0,g0,z⟩:=u
    simp only
    by_cases h:s=s0/\g=g0
    ·obtain⟨rfl,rfl⟩:=h
     rw[if_pos ⟨rfl,rfl⟩,if_pos ⟨z,rfl⟩]
    ·rw[if_neg h,if_neg];rintro⟨z',h'⟩
     simp only[Option.some.injEq,Prod.mk.injEq] at h'
     exact h ⟨h'.1.symm,h'.2.1.symm⟩
 rw[tO];unfold Un Jp;cases hn:e.new with
 | none=>simp only;rw[if_neg (by rintro⟨d,es,h,_⟩;cases h)];exact hu
 | some p =>
   obtain⟨d,es⟩:=p
   simp only
   by_cases h:s=d/\st.aK d<=g/\g-st.aK d<es.length
   ·rw[if_pos h,if_pos ⟨d,es,rfl,h⟩]
   ·rw[if_neg h,if_neg]
    ·exact hu
    ·rintro⟨d',es',h',h2⟩
     simp only[Option.some.injEq,Prod.mk.injEq] at h'
     obtain⟨rfl,rfl⟩:=h'
     exact h h2
theorem aCe {x y:Oper} {aS bs:List Nat} (Ob:∀t,mF st.aK (st.env t)) (hax:gJ x=some aS) (hay:gJ y=some bs) (nM:Oper.apart ops x y=true) (hf:Np st aS bs) {s1 s2:St} (hx:cE P call ops x st=some s1) (hy:cE P call ops y s1=some s2) :
 ∃s3,cE P call ops y st=some s3/\cE P call ops x s3=some s2:=by
 obtain⟨l1,l2,l3⟩:=Oper.apart_spec nM
 have l2':∀d,y.dst=some d->x.dst≠some d:=fun d hd hx=>l2 d hx hd
 rw[Gt] at hx hy;cases hex:sK P call ops x st with
 | none=>simp[hex] at hx
 | some ex =>
   simp only[hex,Option.map_some,Option.some.injEq] at hx;subst hx;rw[JC Ob hax hay l1 l2 (fun a ha b hb=>.inl (hf a ha b hb)) hex] at hy
   cases G1:sK P call ops y st with
   | none=>simp[G1] at hy
   | some ey =>
     simp only[G1,Option.map_some,Option.some.injEq] at hy;subst hy;refine⟨ey.apply st,by rw[Gt,G1];rfl, ?_⟩
     rw[Gt,JC Ob hay hax l3 l2' (fun b hb a ha=>.inr (hf a ha b hb)) G1,hex]
     simp only[Option.map_some,Option.some.injEq];obtain⟨dx,nx,_⟩:=pA hex
     obtain⟨dy,ny,_⟩:=pA G1
     have ux:=Um hax hex
     have uy:=Um hay G1
     have cx:∀d z,ey.new=some (d,z)->(ex.apply st).aK d=st.aK d:=fun d z hn=>by
      rw[lH];split
      ·rename_i d' z' Kk
       rw[if_neg];rintro rfl
       exact l2 _ (nx _ _ Kk) (ny _ _ hn)
      ·rfl
     have cy:∀d z,ex.new=some (d,z)->(ey.apply st).aK d=st.aK d:=fun d z hn=>by
      rw[lH];split
      ·rename_i d' z' Kk
       rw[if_neg];rintro rfl
       exact l2 _ (nx _ _ hn) (ny _ _ Kk)
      ·rfl
     apply aB9
     ·funext t
      rw[oQ,oQ,oQ,oQ,dx,dy];by_cases h1:x.dst=some t
      ·rw[if_pos h1,if_pos h1,if_neg (l2 t h1)]
      ·rw[if_neg h1,if_neg h1]
     ·funext s g
      have nyE:Un ey (ex.apply st).aK s g↔Un ey st.aK s g:=by
       constructor
       ·rintro⟨d,es,h,h2⟩;rw[cx d es h] at h2;exact⟨d,es,h,h2⟩
       ·rintro⟨d,es,h,h2⟩;rw[<- cx d es h] at h2;exact⟨d,es,h,h2⟩
      have nxE:Un ex (ey.apply st).aK s g↔Un ex st.aK s g:=by
       constructor
       ·rintro⟨d,es,h,h2⟩;rw[cy d es h] at h2;exact⟨d,es,h,h2⟩
       ·rintro⟨d,es,h,h2⟩;rw[<- cy d es h] at h2;exact⟨d,es,h,h2⟩
      have vyE:Jp ey (ex.apply st).aK g=Jp ey st.aK g:=by
       unfold Jp;cases hn:ey.new with
       | none=>rfl
       | some p=>simp only[cx p.1 p.2 hn]
      have vxE:Jp ex (ey.apply st).aK g=Jp ex st.aK g:=by
       unfold Jp;cases hn:ex.new with
       | none=>rfl
       | some p=>simp only[cy p.1 p.2 hn]
      rw[Cj,Cj,Cj,Cj];simp only[nyE,nxE,vyE,vxE];symm
      have idk:∀a s g,keyOf (st.env a)=some (some (s,g))->g<st.aK s:=fun a s g h=>aCc (Ob a) h
      refine aCd ?_ ?_ ?_ ?_
      ·rintro⟨d,es,h,rfl,_⟩ ⟨d',es',h',rfl,_⟩
       exact l2 _ (nx _ _ h) (ny _ _ h')
      ·rintro⟨d,es,h,rfl,h1,_⟩ ⟨z,h'⟩
       obtain⟨b,_,hb⟩:=uy _ _ _ h'
       have:=idk b _ _ hb
       omega
      ·rintro⟨z,h⟩ ⟨d,es,h',rfl,h1,_⟩
       obtain⟨a,_,ha⟩:=ux _ _ _ h
       have:=idk a _ _ ha
       omega
      ·rintro⟨z,h⟩ ⟨z',h'⟩
       obtain⟨a,ha,hka⟩:=ux _ _ _ h
       obtain⟨b,hb,P0⟩:=uy _ _ _ h'
       exact aCb (.inl (hf a ha b hb)) hka P0 rfl
     ·funext s
      rw[lH,lH];cases P9:ex.new with
      | none=>cases WL:ey.new<;>simp only[lH,P9,WL]
      | some a =>
        obtain⟨d,z⟩:=a
        cases WL:ey.new with
        | none=>simp only[lH,P9,WL]
        | some b =>
          obtain⟨d',z'⟩:=b
          have Q0:d≠d':=by
           rintro rfl
           exact l2 _ (nx _ _ P9) (ny _ _ WL)
          simp only[lH,P9,WL];rw[if_neg Q0,if_neg (Ne.symm Q0)];by_cases h1:s=d
          ·subst h1;rw[if_neg Q0,if_pos rfl,if_neg Q0]
          ·rw[if_neg h1,if_neg h1]
end
end Go.Ab
end
