/-
  Part 3 of the proof: an evaluator of programs, its soundness, and what functions of this program compute.
-/
import Derived.Test.YtmcjkemalibacaaGreatK2
import Derived.Deep.Upon
set_option linter.all false
set_option maxRecDepth 20000
set_option maxHeartbeats 40000000
open List
noncomputable section
section
namespace Go.Ab
open Classical
section
variable {P:Program} {h0:Nat->Obj->Prop} {w0:World} {F:Gs} {nt:Nat} {ρ:Nat->Nat->Value} {st:St} {a:Act} {w:World} {K:Act->World->Prop} {Q:Exit->Act->World->Prop}
theorem Hl {base T ty e:Nat} {ei:TypeInfo} {ez:Value} (hT:P.underlying T=some (.slice e)) (Dx:P.info? e=some ei) (FK:ei.zero=some ez) (FF:ez.cells.size=ei.size) (uJ:0<ei.size)
 (yI:base<=w.heap.size) {v:Value} {n:Nat} {xs:List Value} (vR:mZ w base e ei.size v n xs)
 {p:Option Addr} {m c:Nat} {news:List Value} (hl:news.length=m * ei.size) (aBV:news≠[]->∃ad,p=some ad/\∀(j:Nat) (u:Value),news[j]? = some u->w.cell? (ad.add j)=some u)
 (h1:∀u∈news,u.oneCell'=true) (h63:n+m<=maxLen) (hb:(n+m) * ei.bytes<=140737488355328) :
 ∃v' w',(Builtin.append_ #[T,T] ty #[v,.slice p m c]).run P w=.ok v' w'/\mZ w' base e ei.size v' (n+m) (xs++news)/\w.grownBy w' (dD v)/\(∀b,dD v'=some b->dD v=some b\/w.heap.size<=b):=by
 by_cases hm:m=0
 ·subst hm;have hn:news=[]:=eq_nil_of_length_eq_zero (by simpa using hl)
  subst hn;refine⟨v,w, ?_,by simpa using vR,⟨rfl,rfl,rfl,Nat.le_refl _,fun _ _ _=>rfl⟩,fun b hb=>.inl hb⟩
  have hfc:∀(x:Value),(∃p,x=.slice p 0 c)->(Builtin.firstCells ei.size 0 x).run P w=.ok #[] w:=by
   rintro x ⟨p,rfl⟩
   cases p<;>simp[Builtin.firstCells,loadCells,loadCellsFrom]
  rcases vR.2 with ⟨q,rfl,rfl⟩|⟨g,cap,cur,rfl,_,_,Yf,_⟩
  ·cases q<;>simp[Builtin.append_,bA hT,run_sizeOf w Dx,Builtin.lenOf,hfc _ ⟨p,rfl⟩,storeCells]
  ·simp[Builtin.append_,bA hT,run_sizeOf w Dx,Builtin.lenOf,hfc _ ⟨p,rfl⟩,Yf,storeCells]
 ·have gJ:news≠[]:=by
   intro h;subst h;have:0<m * ei.size:=Nat.mul_pos (by omega) uJ
   simp at hl
   omega
  obtain⟨ad,rfl,CR⟩:=aBV gJ
  have hlen:(xs++news).length=(n+m) * ei.size:=by rw[length_append,vR.1,hl,Nat.add_mul]
  have grow:∀(ga:Addr) (cap:Nat),cap<n+m->(∀(j:Nat) (u:Value),xs[j]? = some u->w.cell? (ga.add j)=some u)->∃v' w',(Builtin.append_ #[T,T] ty #[.slice (some ga) n cap,.slice (some ad) m c]).run P w=.ok v' w' /\
   mZ w' base e ei.size v' (n+m) (xs++news)/\w.grownBy w' none/\∀b,dD v'=some b->w.heap.size<=b:=by
   intro ga cap J4 holds;have hr:=run_append_grow (P:=P) w T ty e ei ez hT Dx FK ga n cap xs vR.1 holds ad m c news hl CR (by omega) (by simp only[maxLen] at h63;omega) (growslice_fits (by omega) hb)
   have hge:=grownCap_ge w (n+m) cap e
   have aIQ:=grownCap_le_maxLen w (n+m) cap e h63
   refine⟨_,_,hr,⟨hlen,.inr ⟨w.heap.size,_,_,rfl,yI,heap_alloc_new w.drew _,hge,aIQ, ?_, ?_,by omega⟩⟩,⟨rfl,rfl,rfl,by simp,fun k hk _=>heap_alloc_old w.drew _ hk⟩,fun b hb=>?_⟩
   ·simp only[Array.size_append,size_toArray,size_zeroCells,FF,vR.1,hl,<- Nat.add_mul];congr 1
    omega
   ·simp only[Array.toList_append,append_assoc];rw[<- append_assoc,<- hlen];exact take_left
   ·rw[jJ (by omega)] at hb
    simp at hb
    omega
  rcases vR.2 with ⟨q,rfl,rfl⟩|⟨g,cap,cur,rfl,hbg,hg,Yf,Q6,CM,htake,qM⟩
  ·have hx:xs=[]:=eq_nil_of_length_eq_zero (by simpa using vR.1)
   cases q with
   | none =>
     subst hx;obtain⟨v',w',hr,ho,hgr,_⟩:=run_append_own (P:=P) w w.heap.size T ty e ei ez ei.size ei.bytes hT Dx FK rfl rfl FF uJ (.slice none 0 0) 0 [] (World.ownsRow_nil w _ e ei.size)
      ad m c news hl CR h1 (by simpa using h63) (by simpa using hb) (Nat.le_refl _)
     exact⟨v',w',hr,wD (Iz ho) yI,hgr,fun b hb=>.inr ((wE (Iz ho) b hb).1)⟩
   | some ga =>
     obtain⟨v',w',hr,ho,hgr,oM⟩:=grow ga 0 (by omega) (by rw[hx];simp)
     exact⟨v',w',hr,ho,by rw[oR];exact hgr,fun b hb=>.inr (oM b hb)⟩
  ·by_cases J4:n+m<=cap
   ·have aE1:n * ei.size+news.length<=cur.size:=by rw[hl,CM,<- Nat.add_mul];exact Nat.mul_le_mul_right _ J4
    have hr:=run_append_room (P:=P) w T ty e ei hT Dx g n cap cur hg ad m c news hl CR h1 J4 aE1
    refine⟨_,_,hr,⟨hlen,.inr ⟨g,cap,_,rfl,hbg,setRow_heap w g cur _ e _ hg,J4,Q6, ?_, ?_,qM⟩⟩,⟨rfl,rfl,rfl,by simp,fun k _ hk=>setRow_other w g k _ (fun e=>hk (by rw[jJ qM,e]))⟩,fun b hb=>.inl (by rw[jJ qM] at hb ⊢;exact hb)⟩
    ·simp only[size_toArray,length_append,length_take,length_drop,Array.length_toList];omega
    ·rw[htake,<- hlen];exact take_left
   ·have holds:∀(j:Nat) (u:Value),xs[j]? = some u->w.cell? ((⟨g,0,none⟩:Addr).add j)=some u:=fun j u hu=>by
     rw[lF,Nat.zero_add,cell_of_row w g j cur e (0,0) hg];rw[<- htake,getElem?_take] at hu;split at hu
     ·simpa using hu
     ·cases hu
    obtain⟨v',w',hr,ho,hgr,oM⟩:=grow ⟨g,0,none⟩ cap (by omega) holds
    exact⟨v',w',hr,ho,⟨hgr.os,hgr.tape,hgr.output,hgr.size,fun k hk _=>hgr.block k hk (by simp)⟩,fun b hb=>.inr (oM b hb)⟩
theorem lM (dst:Option Nat) (v:AV) (d:Nat) (x:oA):qZ.apply { dst:=dst,val:=v,new:=some (d,[x])} st=(st.new d x).put dst v:=by
 simp only[qZ.apply,Zy]
theorem Vk (dst:Option Nat) (v:AV) (s g d:Nat) (z:Option oA) (x:oA):qZ.apply { dst:=dst,val:=v,dP:=some (s,g,z),new:=some (d,[x])} st=((st.jG s g z).new d x).put dst v:=by
 simp only[qZ.apply,Zy]
theorem MM (S:kS F h0 w0 nt ρ st a w) {T ty d:Nat} {s x:AV} {u:Option (Nat × Nat)} {r:oA} {sv xv:Value} (hd:d<nt) (h:dJ P st T s x=some (u,r))
 (hs:cX (ctx h0 w0 ρ st w) s sv) (hx:cX (ctx h0 w0 ρ st w) x xv) :
 ∃v w' oK,(Builtin.append_ #[T,T] ty #[sv,xv]).run P w=.ok v w' /\
  kS F h0 w0 nt oK (qZ.apply { dst:=some d,val:=.own d (st.aQ d),dP:=u.map fun p=>(p.1,p.2,none),new:=some (d,[r])} st) (a.put (some d) v) w':=by
 unfold dJ at h;cases FG:dX P T with
 | none=>simp[FG] at h
 | some t =>
   obtain⟨e,sz,by_⟩:=t
   simp only[FG] at h;obtain⟨ei,ez,hT,Dx,FK,rfl,FF,rfl,uJ⟩:=kK FG
   cases hv:aV st x with
   | none=>simp[hv] at h
   | some mn =>
     obtain⟨m,news⟩:=mn
     simp only[hv] at h;split at h
     ·rename_i hlen;obtain⟨p,c,rfl,aBV⟩:=tH S hv hx
      have aBW:∃nv:List Value,fU (ctx h0 w0 ρ st w) news nv/\(nv≠[]->∃ad,p=some ad/\∀(j:Nat) (u:Value),nv[j]? = some u->w.cell? (ad.add j)=some u):=by
       by_cases gJ:news=[]
       ·subst gJ;exact⟨[],.nil _,fun h=>absurd rfl h⟩
       ·obtain⟨b,off,arr,T',fr,hp,hb,hc⟩:=aBV gJ
        refine⟨_,hc,fun _=>⟨_,hp,fun j u hu=>?_⟩⟩
        rw[lF,cell_of_row w b (off+j) arr T' fr hb];rw[getElem?_take] at hu;split at hu
        ·rw[getElem?_drop] at hu;simpa using hu
        ·cases hu
      obtain⟨nv,Yf,oO⟩:=aBW
      have XM:nv.length=m * ei.size:=by rw[<- Yf.len,hlen]
      have Tz:∀u∈nv,u.oneCell'=true:=fun u hu=>by
       obtain⟨j,hj,rfl⟩:=getElem_of_mem hu
       exact Yf.one j _ (by simp)
      split at h
      ·split at h
       ·rename_i hc;simp only[aAk,Prod.mk.injEq] at h;obtain⟨rfl,rfl⟩:=h
        have:=iL hs
        subst this;obtain⟨v',w',hr,ho,hg,XJ⟩:=Hl (P:=P) (w:=w) (base:=w.heap.size) (ty:=ty) hT Dx FK FF uJ (Nat.le_refl _) (Iz (World.ownsRow_nil w _ e ei.size)) (p:=p) (c:=c) XM oO Tz (by simpa using hc.2) (by simpa using hc.1)
        simp only[Nat.zero_add,nil_append] at ho;obtain⟨oK,S'⟩:=S.newRow d hd hg e ei.size m news nv v' ho Yf
        exact⟨v',w',oK,hr,by rw[Option.map_none,lM];exact S'⟩
       ·cases h
      ·rename_i s' g'
       cases he:st.heap s' g' with
       | none=>simp[he] at h
       | some e' =>
         cases e' with
         | row e2 sz2 n cs =>
           simp only[he] at h;split at h
           ·rename_i hc;obtain⟨rfl,rfl,hb,h63⟩:=hc
            simp only[aAk,Prod.mk.injEq] at h;obtain⟨rfl,rfl⟩:=h
            obtain⟨_,_,xs,ho,CM⟩:=S.sS s' g' _ he
            cases hs with
            | own _ _ hg1 ho1 =>
              obtain⟨v',w',hr,ho',hg,XJ⟩:=Hl (P:=P) (w:=w) (ty:=ty) hT Dx FK FF uJ S.ext.size ho (p:=p) (c:=c) XM oO Tz h63 hb
              obtain⟨S',k,oS⟩:=S.aAe he hg d (.row e2 ei.size (n+m) (cs++news)) v' (qL ho') XJ (fun C k=>⟨xs++nv,ho',(CM.app Yf).le k⟩)
              have aW:st.aQ d<(ctx h0 w0 (uS ρ d (st.aQ d) v') ((st.jG s' g' none).new d (.row e2 ei.size (n+m) (cs++news))) w').aQ d:=by simp[ctx,St.new,St.jG]
              have jU:(ctx h0 w0 (uS ρ d (st.aQ d) v') ((st.jG s' g' none).new d (.row e2 ei.size (n+m) (cs++news))) w').ρ d (st.aQ d)=v':=oS
              have:=cX.own (C:=ctx h0 w0 (uS ρ d (st.aQ d) v') ((st.jG s' g' none).new d (.row e2 ei.size (n+m) (cs++news))) w') d (st.aQ d) aW (by rw[jU];exact qL ho')
              rw[jU] at this;have hS:=S'.put (some d) (fun t ht=>by cases ht;exact hd) this
              exact⟨v',w',_,hr,by rw[Option.map_some,Vk];exact hS⟩
           ·cases h
         | _=>simp[he] at h
      ·rename_i n cs;split at h
       ·rename_i hc;obtain⟨c1,c2,c3,c4⟩:=hc
        simp only[aAk,Prod.mk.injEq] at h;obtain⟨rfl,rfl⟩:=h
        have main:∀(q:Option Addr) (ys:List Value),sv=.slice q n n->fU (ctx h0 w0 ρ st w) cs ys->(ys≠[]->∃ad,q=some ad/\∀(j:Nat) (u:Value),ys[j]? = some u->w.cell? (ad.add j)=some u) ->
         ∃v' w',(Builtin.append_ #[T,T] ty #[sv,.slice p m c]).run P w=.ok v' w'/\mZ w' w.heap.size e ei.size v' (n+m) (ys++nv)/\w.grownBy w' none:=by
         rintro q ys rfl Yg hcell'
         have hyl:ys.length=n * ei.size:=by rw[<- Yg.len,c1]
         by_cases hm:m=0
         ·have hn0:n=0:=by omega
          subst hm;subst hn0;have hy0:ys=[]:=eq_nil_of_length_eq_zero (by simpa using hyl)
          have hn0:nv=[]:=eq_nil_of_length_eq_zero (by simpa using XM)
          subst hy0;subst hn0;obtain⟨v',w',hr,ho,hg,_⟩:=Hl (P:=P) (w:=w) (base:=w.heap.size) (ty:=ty) (v:=.slice q 0 0) (n:=0) (xs:=[]) hT Dx FK FF uJ (Nat.le_refl _) ⟨by simp,.inl ⟨q,rfl,rfl⟩⟩ (p:=p) (c:=c) XM oO (by simp) c4 c3
          rw[oR] at hg;exact⟨v',w',hr,ho,hg⟩
         ·have gJ:nv≠[]:=by
           intro h;rw[h] at XM;have:0<m * ei.size:=Nat.mul_pos (by omega) uJ
           simp at XM
           omega
          obtain⟨ad,rfl,CR⟩:=oO gJ
          have hlen':(ys++nv).length=(n+m) * ei.size:=by rw[length_append,hyl,XM,Nat.add_mul]
          cases q with
          | none =>
            have hy0:ys=[]:=by
             by_cases h:ys=[]
             ·exact h
             ·obtain⟨ad,h1,_⟩:=hcell' h
              cases h1
            subst hy0;have hn0:n=0:=by
             rcases Nat.eq_zero_or_pos n with h|h
             ·exact h
             ·have:=Nat.mul_pos h uJ
              simp at hyl
              omega
            subst hn0;obtain⟨v',w',hr,ho,hg,_⟩:=Hl (P:=P) (w:=w) (base:=w.heap.size) (ty:=ty) (v:=.slice none 0 0) (n:=0) (xs:=[]) hT Dx FK FF uJ (Nat.le_refl _) ⟨by simp,.inl ⟨none,rfl,rfl⟩⟩ (p:=some ad) (c:=c) XM oO Tz c4 c3
            rw[oR] at hg;exact⟨v',w',hr,ho,hg⟩
          | some ga =>
            have holds:∀(j:Nat) (u:Value),ys[j]? = some u->w.cell? (ga.add j)=some u:=fun j u hu=>by
             have hne':ys≠[]:=by intro h;rw[h] at hu;simp at hu
             obtain⟨ad',h1,h2⟩:=hcell' hne'
             cases h1
             exact h2 j u hu
            have hr:=run_append_grow (P:=P) w T ty e ei ez hT Dx FK ga n n ys hyl holds ad m c nv XM CR (by omega) (by simp only[maxLen] at c4;omega) (growslice_fits (by omega) c3)
            have hge:=grownCap_ge w (n+m) n e
            have aIQ:=grownCap_le_maxLen w (n+m) n e c4
            refine⟨_,_,hr,⟨hlen',.inr ⟨w.heap.size,_,_,rfl,Nat.le_refl _,heap_alloc_new w.drew _,hge,aIQ, ?_, ?_,by omega⟩⟩,⟨rfl,rfl,rfl,by simp,fun k hk _=>heap_alloc_old w.drew _ hk⟩⟩
            ·simp only[Array.size_append,size_toArray,size_zeroCells,FF,hyl,XM,<- Nat.add_mul];congr 1
             omega
            ·simp only[Array.toList_append,append_assoc];rw[<- append_assoc,<- hlen'];exact take_left
        have fin:∀(ys:List Value),fU (ctx h0 w0 ρ st w) cs ys->(∃v' w',(Builtin.append_ #[T,T] ty #[sv,.slice p m c]).run P w=.ok v' w'/\mZ w' w.heap.size e ei.size v' (n+m) (ys++nv)/\w.grownBy w' none) ->
         ∃v w' oK,(Builtin.append_ #[T,T] ty #[sv,.slice p m c]).run P w=.ok v w' /\
          kS F h0 w0 nt oK (qZ.apply { dst:=some d,val:=.own d (st.aQ d),dP:=(none:Option (Nat × Nat)).map fun p=>(p.1,p.2,none),new:=some (d,[.row e ei.size (n+m) (cs++news)])} st) (a.put (some d) v) w':=by
         rintro ys Yg ⟨v',w',hr,ho,hg⟩
         obtain⟨oK,S'⟩:=S.newRow d hd hg e ei.size (n+m) (cs++news) (ys++nv) v' ho (Yg.app Yf)
         exact⟨v',w',oK,hr,by rw[Option.map_none,lM];exact S'⟩
        cases hs with
        | cl0 n q=>exact fin [] (.nil _) (main q [] rfl (.nil _) (by simp))
        | cl n cs b off arr T' fr hb hle hr HU =>
          have zO:fU (ctx h0 w0 ρ st w) cs ((arr.toList.drop off).take cs.length):=by
           refine⟨by simp;omega,fun i x y hx hy=>?_,fun i y hy=>?_⟩
           ·have hi:=(List.getElem?_eq_some_iff.1 hx).1
            rw[getElem?_take,if_pos hi,getElem?_drop] at hy;exact hr i x y hx (by simpa using hy)
           ·rw[getElem?_take] at hy;split at hy
            ·rename_i hi;rw[getElem?_drop] at hy;exact HU i y hi (by simpa using hy)
            ·cases hy
          refine fin _ zO (main _ _ rfl zO fun _=>⟨⟨b,off,none⟩,rfl,fun j u hu=>?_⟩)
          rw[lF,cell_of_row w b (off+j) arr T' fr hb.1];rw[getElem?_take] at hu;split at hu
          ·rw[getElem?_drop] at hu;simpa using hu
          ·cases hu
       ·cases h
      ·cases h
     ·cases h
theorem FY (S:kS F h0 w0 nt ρ st a w) {T ty:Nat} {s x:AV} {u:Nat × Nat × oA × Nat} {sv xv:Value} (h:oP P st T s x=some u)
 (hs:cX (ctx h0 w0 ρ st w) s sv) (hx:cX (ctx h0 w0 ρ st w) x xv) :
 ∃v w',(Builtin.append_ #[T,T] ty #[sv,xv]).run P w=.ok v w'/\kS F h0 w0 nt ρ (st.jG u.1 u.2.1 (some u.2.2.1)) a w' /\
  cX (ctx h0 w0 ρ (st.jG u.1 u.2.1 (some u.2.2.1)) w') (.vw u.1 u.2.1 0 u.2.2.2) v:=by
 unfold oP at h;split at h
 ·rename_i e sz by_ m news s' g' k FG hv
  obtain⟨ei,ez,hT,Dx,FK,rfl,FF,rfl,uJ⟩:=kK FG
  cases he:st.heap s' g' with
  | none=>simp[he] at h
  | some en =>
    cases en with
    | row e' sV n cs =>
      simp only[he] at h;split at h
      ·rename_i hc;obtain⟨rfl,rfl,hlen,aE1⟩:=hc
       simp only[aAk] at h;subst h;obtain⟨p,c,rfl,aBV⟩:=tH S hv hx
       have aBW:∃nv:List Value,fU (ctx h0 w0 ρ st w) news nv/\(nv≠[]->∃ad,p=some ad/\∀(j:Nat) (u:Value),nv[j]? = some u->w.cell? (ad.add j)=some u):=by
        by_cases gJ:news=[]
        ·subst gJ;exact⟨[],.nil _,fun h=>absurd rfl h⟩
        ·obtain⟨b,off,arr,T',fr,hp,hb,hc⟩:=aBV gJ
         refine⟨_,hc,fun _=>⟨_,hp,fun j u hu=>?_⟩⟩
         rw[lF,cell_of_row w b (off+j) arr T' fr hb];rw[getElem?_take] at hu;split at hu
         ·rw[getElem?_drop] at hu;simpa using hu
         ·cases hu
       obtain⟨nv,Yf,oO⟩:=aBW
       have XM:nv.length=m * ei.size:=by rw[<- Yf.len,hlen]
       have Tz:∀u∈nv,u.oneCell'=true:=fun u hu=>by
        obtain⟨j,hj,rfl⟩:=getElem_of_mem hu
        exact Yf.one j _ (by simp)
       obtain⟨_,_,xs,ho,zO⟩:=S.sS s' g' _ he
       cases hs with
       | vw _ _ _ _ b cap hg hb nJ Ao =>
         have oM:dD (ρ s' g')=some b:=hb
         rcases ho.2 with ⟨q,jU,hn⟩|⟨b',FJ,cur,jU,yI,hh,R5,Q6,CM,ht,qM⟩
         ·rw[jU,oR] at oM;cases oM
         ·have xG:b'=b:=by rw[jU,jJ qM] at oM;simpa using oM
          subst xG;have hcc:cap=FJ:=Ao rfl _ _ _ jU
          subst hcc;have Q4:(k+m) * ei.size<=n * ei.size:=Nat.mul_le_mul_right _ aE1
          have hnn:n * ei.size<=cap * ei.size:=Nat.mul_le_mul_right _ R5
          rw[Nat.add_mul] at Q4;have hcl':cur.toList.length=cur.size:=rfl
          have qT:(Builtin.append_ #[T,T] ty #[.slice (some ⟨b',0,none⟩) k cap,.slice p m c]).run P w=.ok (.slice (some ⟨b',0,none⟩) (k+m) cap) (w.setRow b' (cur.toList.take (k * ei.size)++nv++cur.toList.drop (k * ei.size+nv.length)).toArray):=by
           by_cases gJ:nv=[]
           ·have hm:m=0:=by
             rw[gJ] at XM;rcases Nat.eq_zero_or_pos m with h|h
             ·exact h
             ·have:=Nat.mul_pos h uJ
              simp at XM
              omega
            subst hm;have hfc:∀(x:Value),(∃p,x=.slice p 0 c)->(Builtin.firstCells ei.size 0 x).run P w=.ok #[] w:=by
             rintro x ⟨p,rfl⟩
             cases p<;>simp[Builtin.firstCells,loadCells,loadCellsFrom]
            have e0:(cur.toList.take (k * ei.size)++nv++cur.toList.drop (k * ei.size+nv.length)).toArray=cur:=by
             rw[gJ];simp
            rw[e0,setRow_self w b' cur e' (0,0) hh];have hkc:k<=cap:=by omega
            simp[Builtin.append_,bA hT,run_sizeOf w Dx,Builtin.lenOf,hfc _ ⟨p,rfl⟩,storeCells,hkc]
           ·obtain⟨ad,rfl,CR⟩:=oO gJ
            exact run_append_room (P:=P) w T ty e' ei hT Dx b' k cap cur hh ad m c nv XM CR Tz (by omega) (by omega)
          have hxl:=ho.1
          have hcsl:=zO.len
          have S':=S.store (e':=.row e' ei.size n (cs.take (k * ei.size)++news++cs.drop (k * ei.size+m * ei.size))) (w':=w.setRow b' (cur.toList.take (k * ei.size)++nv++cur.toList.drop (k * ei.size+nv.length)).toArray) he oM ⟨rfl,rfl,rfl,by simp,fun j _ hj=>setRow_other w b' j _ (fun e=>hj (by rw[e]))⟩ (fun C kC=>by
           refine⟨xs.take (k * ei.size)++nv++xs.drop (k * ei.size+m * ei.size),⟨by simp;omega,.inr ⟨b',cap,_,jU,yI,setRow_heap w b' cur _ e' (0,0) hh,R5,Q6,by simp;omega, ?_,qM⟩⟩,(((zO.take _).app Yf).app (zO.drop _)).le kC⟩
           simp only
           rw[<- ht,XM];have l1:(cur.toList.take (k * ei.size)++nv).length=k * ei.size+m * ei.size:=by simp;omega
           rw[take_append,l1,take_of_length_le (by omega),drop_take,take_take,Nat.min_eq_left (by omega)])
          exact⟨_,_,qT,S',.vw s' g' 0 _ b' cap hg hb (by show k+m<=cap;omega) (fun _=>Ao rfl)⟩
      ·cases h
    | _=>simp[he] at h
 ·cases h
theorem TS (S:kS F h0 w0 nt ρ st a w) {T ty:Nat} {x:AV} {u:Option (Nat × Nat × oA)} {xv:Value} (h:sQ P st T x=some u) (hx:cX (ctx h0 w0 ρ st w) x xv) :
 ∃w',(Builtin.clear_ #[T] ty #[xv]).run P w=.ok (.tuple #[]) w'/\kS F h0 w0 nt ρ (match u with|some p=>st.jG p.1 p.2.1 (some p.2.2)|none=>st) a w':=by
 unfold sQ at h;split at h
 ·rename_i e sz by_ s g o k FG _;obtain⟨ei,ez,hT,Dx,FK,rfl,FF,rfl,uJ⟩:=kK FG
  split at h
  ·rename_i z e' sV n cs hz he
   split at h
   ·rename_i hc;obtain⟨rfl,rfl,aE1⟩:=hc
    simp only[aAk] at h;subst h;obtain⟨i',zv,Ei,TH,rfl,hz1⟩:=Bk hz
    rw[Dx] at Ei
    cases Ei
    rw[FK] at TH;cases TH
    obtain⟨_,_,xs,ho,zO⟩:=S.sS s g _ he
    cases hx with
    | vw _ _ _ _ b cap hg hb nJ Ao =>
      have oM:dD (ρ s g)=some b:=hb
      rcases ho.2 with ⟨q,jU,hn⟩|⟨b',FJ,cur,jU,yI,hh,R5,Q6,CM,ht,qM⟩
      ·rw[jU,oR] at oM;cases oM
      ·have xG:b'=b:=by rw[jU,jJ qM] at oM;simpa using oM
       subst xG;have hxl:=ho.1
       have hcsl:=zO.len
       have hnn:n * ei.size<=FJ * ei.size:=Nat.mul_le_mul_right _ R5
       have hcl':cur.toList.length=cur.size:=rfl
       have p4:(Builtin.zeroCells ez.cells k).toList=(List.range k).flatMap fun _=>ez.cells.toList:=by
        unfold Builtin.zeroCells;rw[<- Ke]
       have hzl:((List.range k).flatMap fun _=>ez.cells.toList).length=k * ei.size:=by
        rw[<- p4,Array.length_toList,size_zeroCells,FF]
       have hz1':∀v∈(List.range k).flatMap fun _=>ez.cells.toList,v.oneCell'=true:=fun v hv=>by
        obtain⟨_,_,hv⟩:=mem_flatMap.1 hv
        exact hz1 v hv
       have tG:=run_storeCells_at P b' o e' ((List.range k).flatMap fun _=>ez.cells.toList) 0 cur w hh (by rw[hzl];omega) hz1'
       simp only[Nat.add_zero] at tG;have S':=S.store (e':=.row e' ei.size n (cs.take o++((List.range k).flatMap fun _=>ez.cells.toList.map .v)++cs.drop (o+k * ei.size))) (w':=w.setRow b' (cur.toList.take o++((List.range k).flatMap fun _=>ez.cells.toList)++cur.toList.drop (o+((List.range k).flatMap fun _=>ez.cells.toList).length)).toArray) he oM ⟨rfl,rfl,rfl,by simp,fun j _ hj=>setRow_other w b' j _ (fun e=>hj (by rw[e]))⟩ (fun C kC=>by
        refine⟨xs.take o++((List.range k).flatMap fun _=>ez.cells.toList)++xs.drop (o+k * ei.size),⟨by rw[length_append,length_append,hzl];simp;omega,.inr ⟨b',FJ,_,jU,yI,setRow_heap w b' cur _ e' (0,0) hh,R5,Q6,by rw[size_toArray,length_append,length_append,hzl];simp;omega, ?_,qM⟩⟩,(((zO.take _).le kC).app (Lw hz1 k)).app ((zO.drop _).le kC)⟩
        simp only
        rw[<- ht,hzl];have l1:(cur.toList.take o++((List.range k).flatMap fun _=>ez.cells.toList)).length=o+k * ei.size:=by rw[length_append,hzl];simp;omega
        rw[take_append,l1,take_of_length_le (by omega),drop_take,take_take,Nat.min_eq_left (by omega)])
       refine⟨_, ?_,S'⟩
       have hzv:(zeroValue e').run P w=.ok ez w:=by simp[zeroValue,typeInfo,Dx,FK]
       cases k with
       | zero =>
         have e0:(cur.toList.take o++((List.range 0).flatMap fun _=>ez.cells.toList)++cur.toList.drop (o+((List.range 0).flatMap fun _=>ez.cells.toList).length)).toArray=cur:=by simp
         rw[e0,setRow_self w b' cur e' (0,0) hh];simp[Builtin.clear_,bA hT]
       | succ k =>
         have hst2:(storeCells ⟨b',o,none⟩ (Builtin.zeroCells ez.cells (k+1)).toList).run P w=.ok () (w.setRow b' (cur.toList.take o++((List.range (k+1)).flatMap fun _=>ez.cells.toList)++cur.toList.drop (o+((List.range (k+1)).flatMap fun _=>ez.cells.toList).length)).toArray):=by rw[p4];exact tG
         obtain⟨W,hW⟩:∃W,w.setRow b' (cur.toList.take o++((List.range (k+1)).flatMap fun _=>ez.cells.toList)++cur.toList.drop (o+((List.range (k+1)).flatMap fun _=>ez.cells.toList).length)).toArray=W:=⟨_,rfl⟩
         rw[hW] at hst2;rw[hW];simp[Builtin.clear_,bA hT,hzv,hst2]
   ·cases h
  ·cases h
 ·rename_i t cs FG _;simp only[aAk] at h;subst h;obtain⟨e,sz,by_⟩:=t
  obtain⟨ei,ez,hT,_⟩:=kK FG
  refine⟨w, ?_,S⟩
  cases hx with
  | KR n cap p nJ=>cases p<;>simp[Builtin.clear_,bA hT]
  | sl n cs b off cap arr T fr nJ hb hle hr h1=>simp[Builtin.clear_,bA hT]
 ·rename_i t FG _;simp only[aAk] at h;subst h;obtain⟨e,sz,by_⟩:=t
  obtain⟨ei,ez,hT,_⟩:=kK FG
  have:=iL hx
  subst this;exact⟨w,by simp[Builtin.clear_,bA hT],S⟩
 ·cases h
theorem p5 {C:Ctx} {x:AV} {v:Value} {g:Nat} {mK:List AV} (h:KO x=some (g,mK)) (hr:cX C x v):∃cv,v=.func (.func g) #[] cv/\lK C mK cv.toList:=by
 unfold KO at h;split at h
 ·split at h
  ·rename_i hc;obtain⟨rfl,rfl⟩:=hc
   simp only[aAk,Prod.mk.injEq] at h;obtain⟨rfl,rfl⟩:=h
   have:=iL hr
   subst this;exact⟨#[],rfl,.nil C⟩
  ·cases h
 ·simp only[aAk,Prod.mk.injEq] at h;obtain⟨rfl,rfl⟩:=h
  cases hr with
  | sH f cs a hl hr=>exact⟨a,rfl,by simpa using hl,fun i x y hx hy=>hr i x y hx (by simpa using hy)⟩
 ·cases h
variable [Ext]
theorem FZ (S:kS F h0 w0 nt ρ st a w) {call:Nat->List AV->Option AV} (jC:pE P call) {o:Oper} {c:Call} (qV:o.op=.call c) {e:qZ}
 (h:iT P call c o.dst st=some e) (hd:∀d,o.dst=some d->d<nt)
 (hK:∀oK a' w',kS F h0 w0 nt oK (e.apply st) a' w'->K a' w'):o.wp P a w K Q:=by
 have vV:lK (ctx h0 w0 ρ st w) (c.args.toList.map st.ev) (c.args.toList.map a.eval):=lK.map _ _ _ fun p _=>S.ev p
 unfold iT at h;split at h
 ·rename_i f hf;have fin:∀g cv,a.eval f=.func (.func g) #[] cv->(zA P g/\Calls P g (c.args.map a.eval++cv) w fun en w'=>∃v,en=.returned v/\K (a.put o.dst v) w')->o.wp P a w K Q:=by
   rintro g cv hv ⟨⟨fn,aIR,aBX,aBY⟩,p6⟩
   have hnb:fn.body.isNone=false:=by
    cases hb:fn.body<;>simp[hb] at aBY ⊢
   have Tz : ¬ fn.name = "runtime.NumGoroutine" := by simpa using aBX
   have hn2:¬fn.body=none:=by intro h;simp[h] at hnb
   have qT:(execOp a.eval o).run P w=.ok (.enter g (c.args.map a.eval++cv)) w:=by
    simp[execOp,qV,resolve,hf,hv,Deferred.ofValue,invoke,callFunc,aIR,Tz,hn2]
   unfold Oper.wp;rw[qT,Oper.upon_enter];refine p6.mono ?_
   rintro en w' ⟨v,rfl,hk⟩
   exact hk
  have gen:∀g mK,KO (st.ev f)=some (g,mK)->bH call g (c.args.toList.map st.ev++mK) st o.dst=some e->o.wp P a w K Q:=by
   intro g mK hfn h;obtain⟨cv,hv,hcaps⟩:=p5 hfn (S.ev f)
   have fC:lK (ctx h0 w0 ρ st w) (c.args.toList.map st.ev++mK) (c.args.map a.eval++cv).toList:=by
    simpa using vV.app hcaps
   exact fin g cv hv (zT S jC h fC hd hK)
  unfold oQ at h;split at h
  ·rename_i g;split at h
   ·refine fin g #[] rfl ?_
    exact MK S jC h (by simpa using vV) hd hK
   ·split at h
    ·refine fin g #[] rfl ?_
     exact FX S jC h (by simpa using vV) hd hK
    ·split at h
     ·refine fin g #[] rfl ?_
      exact MJ S jC h (by simpa using vV) hd hK
     ·exact gen g [] rfl (by simpa using h)
  ·split at h
   ·rename_i g mK hfn;exact gen g mK hfn h
   ·cases h
 ·rename_i hf;split at h
  ·rename_i x T hx hT;cases hs:dX P T with
   | none=>simp[hs] at h
   | some t =>
     cases hv:aV st (st.ev x) with
     | none=>simp[hs,hv] at h
     | some nc =>
       obtain⟨n,cs⟩:=nc
       simp only[hs,hv,aAk] at h;subst h;obtain⟨p,cap,aBZ,_⟩:=tH S hv (S.ev x)
       obtain⟨e,sz,by_⟩:=t
       obtain⟨ei,ez,hu,_⟩:=kK hs
       have ha:c.args=#[x]:=by apply Array.ext';simpa using hx
       have ht:c.argTypes=#[T]:=by apply Array.ext';simpa using hT
       refine upon_value (v:=.int .i64 n) ?_ (hK ρ _ w (S.put o.dst hd (.v _)))
       simp[execOp,qV,resolve,hf,ha,ht,invoke,builtin,Builtin.len_,aBZ,bA hu,goInt]
  ·cases h
 ·rename_i hf;split at h
  ·rename_i x y hx;split at h
   ·rename_i k p k' q h1 h2
    simp only[aAk] at h;subst h;have e1:=S.ev x
    rw[h1] at e1;have e1:=iL e1
    have e2:=S.ev y
    rw[h2] at e2;have e2:=iL e2
    have ha:c.args=#[x,y]:=by apply Array.ext';simpa using hx
    refine upon_value (v:=.int k (if q<p then q else p)) ?_ (hK ρ _ w (S.put o.dst hd (.v _)))
    simp[execOp,qV,resolve,hf,ha,invoke,builtin,Builtin.min_,Builtin.min2,e1,e2]
   ·cases h
  ·cases h
 ·rename_i hf;split at h
  ·rename_i x y hx;split at h
   ·rename_i k p k' q h1 h2
    simp only[aAk] at h;subst h;have e1:=S.ev x
    rw[h1] at e1;have e1:=iL e1
    have e2:=S.ev y
    rw[h2] at e2;have e2:=iL e2
    have ha:c.args=#[x,y]:=by apply Array.ext';simpa using hx
    refine upon_value (v:=.int k (if q > p then q else p)) ?_ (hK ρ _ w (S.put o.dst hd (.v _)))
    simp[execOp,qV,resolve,hf,ha,invoke,builtin,Builtin.max_,Builtin.max2,e1,e2]
   ·cases h
  ·cases h
 ·rename_i hf;cases lI:o.dst with
  | none=>simp[lI,cT] at h
  | some d =>
  simp only[lI,cT] at h;split at h
  ·rename_i s x T T' hx hT
   split at h
   ·rename_i hTT;subst hTT;split at h
    ·cases oE:oP P st T (st.ev s) (st.ev x) with
     | none=>simp[oE] at h
     | some u =>
     simp only[oE,aAo,aAk] at h;subst h;obtain⟨v,w',hr,S',hv⟩:=FY (ty:=o.type) S oE (S.ev s) (S.ev x)
     have ha:c.args=#[s,x]:=by apply Array.ext';simpa using hx
     have ht:c.argTypes=#[T,T]:=by apply Array.ext';simpa using hT
     rw[lI] at hd;have hk:=hK ρ _ w' (S'.put (some d) hd hv)
     unfold Oper.wp;simp only[execOp,qV,resolve,hf,ha,ht,invoke,builtin];simp[hr]
     unfold Oper.upon;rw[lI];exact hk
    split at h
    ·rename_i hpa;obtain⟨_,hs0,FG,hv'⟩:=hpa
     obtain⟨⟨_,cs⟩,hv,hv0⟩:=Option.map_eq_some_iff.1 hv'
     simp only at hv0
     subst hv0;simp only[aAk] at h;subst h;have e1:=S.ev s
     rw[hs0] at e1;have e1:=iL e1
     obtain⟨q,c',hxv,_⟩:=tH S hv (S.ev x)
     cases hsi:dX P T with
     | none=>rw[hsi] at FG;cases FG
     | some t =>
     obtain⟨e,sz,by_⟩:=t
     obtain⟨ei,ez,hT',Dx,_⟩:=kK hsi
     have hz:∀w:World,(Builtin.firstCells ei.size 0 (.slice q 0 c')).run P w=.ok ([]:List Value).toArray w:=fun w=>by cases q<;>simp[Builtin.firstCells,loadCells,loadCellsFrom]
     have hr:(Builtin.append_ #[T,T] o.type #[.slice none 0 0,.slice q 0 c']).run P w=.ok (.slice none 0 0) w:=run_append_nothing w T T o.type e ei hT' Dx none 0 0 (Nat.le_refl _) _ ⟨.inl ⟨e,hT'⟩,fun w'=>by simp[Builtin.lenOf],hz _,hz _,by simp,by simp⟩
     have ha:c.args=#[s,x]:=by apply Array.ext';simpa using hx
     have ht:c.argTypes=#[T,T]:=by apply Array.ext';simpa using hT
     rw[lI] at hd;refine upon_value (v:=.slice none 0 0) ?_ (by rw[lI];exact hK ρ _ w (S.put (some d) hd (.v _)))
     simp[execOp,qV,resolve,hf,ha,ht,invoke,builtin,e1,hxv,hr]
    cases oE:dJ P st T (st.ev s) (st.ev x) with
    | none=>simp[oE] at h
    | some ur =>
      obtain⟨u,r⟩:=ur
      simp only[oE,aAk] at h;subst h;obtain⟨v,w',oK,hr,S'⟩:=MM (ty:=o.type) S (hd d lI) oE (S.ev s) (S.ev x)
      have ha:c.args=#[s,x]:=by apply Array.ext';simpa using hx
      have ht:c.argTypes=#[T,T]:=by apply Array.ext';simpa using hT
      have hk:=hK oK _ w' S'
      unfold Oper.wp;simp only[execOp,qV,resolve,hf,ha,ht,invoke,builtin];simp[hr]
      unfold Oper.upon;rw[lI];exact hk
   ·cases h
  ·cases h
 ·rename_i hf;split at h
  ·rename_i x T hx hT;cases oE:sQ P st T (st.ev x) with
   | none=>simp[oE] at h
   | some u =>
     simp only[oE,aAo,aAk] at h;subst h;obtain⟨w',hr,S'⟩:=TS (ty:=o.type) S oE (S.ev x)
     have ha:c.args=#[x]:=by apply Array.ext';simpa using hx
     have ht:c.argTypes=#[T]:=by apply Array.ext';simpa using hT
     have hk:=hK ρ (a.put o.dst (.tuple #[])) w' (by
      have:=S'.put o.dst hd (x:=.eH []) (v:=.tuple #[]) (.eH [] #[] rfl (by simp))
      cases u with
      | none=>exact this
      | some p=>exact this)
     unfold Oper.wp;simp only[execOp,qV,resolve,hf,ha,ht,invoke,builtin];simp[hr]
     unfold Oper.upon;exact hk
  ·cases h
 ·cases h
theorem Xj (S:kS F h0 w0 nt ρ st a w) {call:Nat->List AV->Option AV} (jC:pE P call) {o:Oper} {e:qZ} (h:dU P call o st=some e) (hd:∀d,o.dst=some d->d<nt)
 (hK:∀oK a' w',kS F h0 w0 nt oK (e.apply st) a' w'->K a' w'):o.wp P a w K Q:=by
 unfold dU at h;split at h
 ·rename_i T qV;cases lI:o.dst with
  | none=>simp[lI,cT] at h
  | some d =>
    cases hz:eK P T with
    | none=>simp[lI,hz,cT] at h
    | some z =>
      simp only[lI,hz,cT,aAk] at h;subst h;obtain⟨i,zv,hi,TH,rfl,hz1⟩:=Bk hz
      obtain⟨oK,S'⟩:=S.newVar d (hd d lI) (zv.cells.toList.map .v) zv.cells T (fU.vs _ _ hz1)
      refine upon_value (v:=.pointer (some ⟨w.heap.size,0,none⟩)) (w':=w.alloc (.cells zv.cells T)) ?_ (by rw[lI];exact hK oK _ _ (by rw[lM];exact S'))
      simp only[execOp,qV,Instr.alloc];simp[Dj w hi TH,Go.newVar,Go.newRow]
 ·rename_i T x qV;cases lI:o.dst with
  | none=>simp[lI,cT] at h
  | some d =>
    simp only[lI,cT] at h;split at h
    ·rename_i tG;simp only[aAk] at h;subst h;obtain⟨oK,S'⟩:=S.newVar d (hd d lI) (st.ev x).cells (a.eval x).cells T ((S.ev x).cells tG)
     refine upon_value (v:=.pointer (some ⟨w.heap.size,0,none⟩)) (w':=w.alloc (.cells (a.eval x).cells T)) ?_ (by rw[lI];exact hK oK _ _ (by rw[lM];exact S'))
     simp only[execOp,qV,Instr.box];simp[Go.newVar,Go.newRow]
    ·cases h
 ·rename_i T n parts qV;cases lI:o.dst with
  | none=>simp[lI,cT] at h
  | some d =>
    cases hs:dX P T with
    | none=>simp[lI,hs,cT] at h
    | some t =>
      obtain⟨e',sz,by_⟩:=t
      cases hz:eK P e' with
      | none=>simp[lI,hs,hz,cT] at h
      | some z =>
        simp only[lI,hs,hz,cT] at h;split at h
        ·rename_i hc;obtain⟨c1,c2,c3⟩:=hc
         cases hf:gS (fun i=>some (i * sz,sz)) ((List.range n).flatMap fun _=>z.map .v) (parts.toList.map fun p=>(p.1,st.ev p.2)) with
         | none=>simp[hf] at h
         | some cs =>
           simp only[hf,aAk] at h;subst h;obtain⟨v,w',xs,hr,hg,ho,oO⟩:=Vj S hs hz c1 c2 c3 hf
           obtain⟨oK,S'⟩:=S.newRow d (hd d lI) hg e' sz n cs xs v ho oO
           refine upon_value (v:=v) (w':=w') ?_ (by rw[lI];exact hK oK _ _ (by rw[lM];exact S'))
           simp only[execOp,qV];rw[dQ hr];rfl
        ·cases h
 ·rename_i T l c qV;cases lI:o.dst with
  | none=>simp[lI,cT] at h
  | some d =>
    cases hs:dX P T with
    | none=>simp[lI,hs,cT] at h
    | some t =>
      obtain⟨e',sz,by_⟩:=t
      cases hz:eK P e' with
      | none=>simp[lI,hs,hz,cT] at h
      | some z =>
        simp only[lI,hs,hz,cT] at h;split at h
        ·rename_i n m hl hc;split at h
         ·rename_i aBM;obtain⟨c1,rfl,c3,c4⟩:=aBM
          simp only[aAk] at h;subst h;obtain⟨k,rfl⟩:∃k:Nat,n=k:=⟨n.toNat,by omega⟩
          obtain⟨v,w',xs,hr,hg,ho,oO⟩:=Yh (w:=w) (ctx h0 w0 ρ st w) hs hz (n:=k) (by
           have:((k * by_:Nat):Int)<=140737488355328:=by rw[Int.natCast_mul];exact c3
           omega) (by omega)
          obtain⟨oK,S'⟩:=S.newRow d (hd d lI) hg e' sz k _ xs v ho oO
          simp only[Int.toNat_natCast] at hK;refine upon_value (v:=v) (w':=w') ?_ (by rw[lI];exact hK oK _ _ (by rw[lM];exact S'))
          have e1:=S.ev l
          rw[hl] at e1;have e1:=iL e1
          have e2:=S.ev c
          rw[hc] at e2;have e2:=iL e2
          simp only[execOp,qV,e1,e2];rw[dQ hr];rfl
         ·cases h
        ·cases h
 ·rename_i T x y qV;cases hs:qQ P st T (st.ev x) (st.ev y) with
  | none=>simp[hs] at h
  | some u =>
    obtain⟨s,g,e'⟩:=u
    simp only[hs,aAo,aAk] at h;subst h;obtain⟨w',hr,S'⟩:=TP S hs (S.ev x) (S.ev y)
    have hk:=hK ρ _ w' (S'.put o.dst hd (.v undef))
    unfold Oper.wp;simp only[execOp,qV];rw[dQ hr];exact hk
 ·rename_i T qV;cases lI:o.dst with
  | none=>simp[lI,cT] at h
  | some d =>
    simp only[lI,cT,aAk] at h;subst h;obtain⟨S',k,oS⟩:=S.new (World.grownBy_alloc w (.map #[] 0) none) d (.map []) (.map (some w.heap.size)) rfl (fun b hb=>by simp[dD] at hb;omega)
     (fun C k _=>⟨w.heap.size,#[],0,rfl,S.ext.size,heap_alloc_new w _,trivial⟩)
    have aW:st.aQ d<(ctx h0 w0 (uS ρ d (st.aQ d) (.map (some w.heap.size))) (st.new d (.map [])) (w.alloc (.map #[] 0))).aQ d:=by simp[ctx,St.new]
    have jU:(ctx h0 w0 (uS ρ d (st.aQ d) (.map (some w.heap.size))) (st.new d (.map [])) (w.alloc (.map #[] 0))).ρ d (st.aQ d)=.map (some w.heap.size):=oS
    have:=cX.mp (C:=ctx h0 w0 (uS ρ d (st.aQ d) (.map (some w.heap.size))) (st.new d (.map [])) (w.alloc (.map #[] 0))) d (st.aQ d) aW (by rw[jU];rfl)
    rw[jU] at this;have hS:=S'.put (some d) (fun t ht=>by cases ht;exact hd d lI) this
    refine upon_value (v:=.map (some w.heap.size)) (w':=w.alloc (.map #[] 0)) ?_ (by rw[lI];exact hK _ _ _ (by rw[lM];exact hS))
    simp only[execOp,qV,Option.map_none];rfl
 ·rename_i T m x y qV;cases hs:uP P st T (st.ev m) (st.ev x) (st.ev y) with
  | none=>simp[hs] at h
  | some u =>
    obtain⟨s,g,e'⟩:=u
    simp only[hs,aAo,aAk] at h;subst h;obtain⟨w',hr,S'⟩:=MG S hs (S.ev m) (S.ev x) (S.ev y)
    have hk:=hK ρ _ w' (S'.put o.dst hd (.v undef))
    unfold Oper.wp;simp only[execOp,qV];rw[dQ hr];exact hk
 ·rename_i c qV;exact FZ S jC qV h hd hK
 ·cases hv:iY P st o.op with
  | none=>simp[hv] at h
  | some x =>
    simp only[hv,aAo,aAk] at h;subst h;obtain⟨v,hr,fC⟩:=TL S hv
    exact upon_value hr (hK ρ _ w (S.put o.dst hd fC))
end
end Go.Ab
end
section
namespace Go.Ab
open Classical
def mI (aQ:Nat->Nat) (x:AV):Prop:=∃(C:Ctx) (v:Value),C.aQ=aQ/\cX C x v
def mI.ptr {aQ:Nat->Nat} {s g o:Nat} (h:mI aQ (.ptr s g o)):g<aQ s:=by
 obtain⟨C,v,rfl,h⟩:=h
 cases h with
 | ptr s g off b hg hb=>exact hg
def mI.own {aQ:Nat->Nat} {s g:Nat} (h:mI aQ (.own s g)):g<aQ s:=by
 obtain⟨C,v,rfl,h⟩:=h
 cases h with
 | own s g hg _=>exact hg
def mI.vw {aQ:Nat->Nat} {s g o n:Nat} (h:mI aQ (.vw s g o n)):g<aQ s:=by
 obtain⟨C,v,rfl,h⟩:=h
 cases h with
 | vw s g o n b cap hg _ _ _=>exact hg
def mI.mp {aQ:Nat->Nat} {s g:Nat} (h:mI aQ (.mp s g)):g<aQ s:=by
 obtain⟨C,v,rfl,h⟩:=h
 cases h with
 | mp s g hg _=>exact hg
def mI.agg {aQ:Nat->Nat} {cs:List AV} (h:mI aQ (.agg cs)):∀c∈cs,mI aQ c:=by
 obtain⟨C,v,rfl,h⟩:=h
 cases h with
 | agg cs a hl hr _ =>
   intro c hc;obtain⟨i,hi,rfl⟩:=getElem_of_mem hc
   exact⟨C,a[i],rfl,hr i _ _ (by simp[hi]) (by simp)⟩
def mI.sH {aQ:Nat->Nat} {f:Nat} {cs:List AV} (h:mI aQ (.sH f cs)):∀c∈cs,mI aQ c:=by
 obtain⟨C,v,rfl,h⟩:=h
 cases h with
 | sH f cs a hl hr =>
   intro c hc;obtain⟨i,hi,rfl⟩:=getElem_of_mem hc
   exact⟨C,a[i]'(by omega),rfl,hr i _ _ (by simp[hi]) (by simp)⟩
section
variable {P:Program} {call:Nat->List AV->Option AV} {st st':St}
def qC (st st':St):Prop:=∀s g,g<st.aQ s->st'.heap s g=st.heap s g
theorem MN {x:AV} (hx:mI st.aQ x) (hh:qC st st'):rG st' x=rG st x:=by
 cases x<;>simp only[rG]
 rw[hh _ _ hx.ptr]
theorem tJ {x:AV} (hx:mI st.aQ x) (hh:qC st st'):aV st' x=aV st x:=by
 cases x
 case own=>simp only[aV,hh _ _ hx.own]
 case vw=>simp only[aV,hh _ _ hx.vw]
 case v y =>
  cases y
  case slice p n c=>cases p<;>cases n<;>cases c<;>rfl
  all_goals rfl
 all_goals rfl
theorem Vl {T:Nat} {x i:AV} (hx:mI st.aQ x) (hh:qC st st'):bI P st' T x i=bI P st T x i:=by
 unfold bI;cases x<;>try rfl
 simp only[hh _ _ hx.own]
theorem CS {T:Nat} {x:AV} {lo hi:Option Operand} (hx:∀s g,((∃o,x=.ptr s g o)\/x=.own s g\/∃o n,x=.vw s g o n)->st'.heap s g=st.heap s g) (hl:∀p,lo=some p->st'.ev p=st.ev p) (Ei:∀p,hi=some p->st'.ev p=st.ev p):cZ P st' T x lo hi=cZ P st T x lo hi:=by
 unfold cZ;cases dX P T with
 | none =>
   simp only
   cases jP P T with
   | none=>rfl
   | some na =>
     cases x<;>try rfl
     rename_i s g o;cases lo<;>cases hi<;>try rfl
     simp only[hx s g (.inl ⟨o,rfl⟩)]
 | some t =>
   simp only
   cases x<;>try rfl
   case v y =>
    cases y<;>try rfl
    rename_i p n c;cases p<;>cases n<;>cases c<;>try rfl
    cases lo with
    | none=>cases hi with
      | none=>rfl
      | some h=>simp only[Ei h rfl]
    | some l=>cases hi with
      | none=>simp only[hl l rfl]
      | some h=>simp only[hl l rfl,Ei h rfl]
   case sl n cs =>
    cases lo with
    | none=>cases hi with
      | none=>rfl
      | some h=>simp only[Ei h rfl]
    | some l=>cases hi with
      | none=>simp only[hl l rfl]
      | some h=>simp only[hl l rfl,Ei h rfl]
   case own s g =>
    simp only[hx s g (.inr (.inl rfl))];cases lo with
    | none=>cases hi with
      | none=>rfl
      | some h=>simp only[Ei h rfl]
    | some l=>cases hi with
      | none=>simp only[hl l rfl]
      | some h=>simp only[hl l rfl,Ei h rfl]
   case vw s g o n =>
    cases o with
    | succ o=>rfl
    | zero =>
      simp only[hx s g (.inr (.inr ⟨_,_,rfl⟩))];cases st.heap s g with
      | none=>rfl
      | some e=>cases e with
        | row e' sV n' Gp =>
          cases lo with
          | none=>cases hi<;>rfl
          | some l=>cases hi with
            | none=>rfl
            | some h=>simp only[hl l rfl,Ei h rfl]
        | _=>rfl
theorem MO {T:Nat} {x:AV} {lo hi:Option Operand} (hx:mI st.aQ x) (hh:qC st st') (hl:∀p,lo=some p->st'.ev p=st.ev p) (Ei:∀p,hi=some p->st'.ev p=st.ev p):cZ P st' T x lo hi=cZ P st T x lo hi :=
 CS (fun s g h=>by
  rcases h with ⟨o,rfl⟩|rfl|⟨o,n,rfl⟩
  ·exact hh _ _ hx.ptr
  ·exact hh _ _ hx.own
  ·exact hh _ _ hx.vw) hl Ei
def CT (st:St):Prop:=∀s g cs,st.heap s g=some (.cells cs)->∀c∈cs,mI st.aQ c
theorem TT {x:AV} (hx:mI st.aQ x) (hh:qC st st'):xR st' x=xR st x:=by
 unfold xR;cases x<;>try rfl
 ·simp only[hh _ _ hx.own]
 ·simp only[hh _ _ hx.vw]
theorem Kf (hp:CT st) {x:AV} (hx:mI st.aQ x) (hh:qC st st'):cN st' x=cN st x:=by
 unfold cN;cases x<;>try rfl
 ·rename_i s g o;simp only[hh _ _ hx.ptr];cases he:st.heap s g with
  | none=>rfl
  | some e =>
    cases e with
    | cells cs =>
      have:cs.map (xR st')=cs.map (xR st):=map_congr_left fun c hc=>TT (hp s g cs he c hc) hh
      simp only[this]
    | _=>rfl
 ·simp only[hh _ _ hx.own]
 ·simp only[hh _ _ hx.vw]
theorem CU (hp:CT st) {x:AV} (hx:mI st.aQ x) (hh:qC st st'):fS st' x=fS st x:=by
 unfold fS;cases x<;>try (simp only[Kf hp hx hh];done)
 ·rename_i cs;have:cs.map (cN st')=cs.map (cN st):=map_congr_left fun c hc=>Kf hp (hx.agg c hc) hh
  simp only[this]
 ·rename_i f cs;have:cs.map (cN st')=cs.map (cN st):=map_congr_left fun c hc=>Kf hp (hx.sH c hc) hh
  simp only[this]
theorem MP {T:Nat} {x y:AV} (hx:mI st.aQ x) (hh:qC st st'):qQ P st' T x y=qQ P st T x y:=by
 unfold qQ;cases x<;>try rfl
 simp only[hh _ _ hx.ptr]
theorem GA {T:Nat} {s x:AV} (hs:mI st.aQ s) (hx:mI st.aQ x) (hh:qC st st'):dJ P st' T s x=dJ P st T s x:=by
 unfold dJ;simp only[tJ hx hh];cases s
 case own=>simp only[hh _ _ hs.own]
 case v y =>
  cases y
  case slice p n c=>cases p<;>cases n<;>cases c<;>rfl
  all_goals rfl
 all_goals rfl
theorem GB {T:Nat} {s x:AV} (hs:mI st.aQ s) (hx:mI st.aQ x) (hh:qC st st'):oP P st' T s x=oP P st T s x:=by
 unfold oP;rw[tJ hx hh];cases dX P T with
 | none=>rfl
 | some t=>cases aV st x with
   | none=>rfl
   | some mn =>
     cases s<;>try rfl
     case vw s g o n =>
      cases o with
      | zero=>simp only[hh _ _ hs.vw]
      | succ o=>rfl
theorem MQ {T:Nat} {x:AV} (hx:mI st.aQ x) (hh:qC st st'):sQ P st' T x=sQ P st T x:=by
 unfold sQ;cases dX P T with
 | none=>rfl
 | some t =>
   cases x<;>try rfl
   case vw s g o n=>simp only[hh _ _ hx.vw]
   case v y =>
    cases y<;>try rfl
    rename_i p n c;cases p<;>cases n<;>cases c<;>rfl
   case sl n cs=>cases n<;>rfl
theorem Xk {T:Nat} {x:AV} {lo:Option Operand} {hi mx:Operand} (hx:∀s g,x=.own s g->st'.heap s g=st.heap s g) (hl:∀p,lo=some p->st'.ev p=st.ev p) (h1:st'.ev hi=st.ev hi) (h2:st'.ev mx=st.ev mx):Ch P st' T x lo hi mx=Ch P st T x lo hi mx:=by
 unfold Ch;rw[h1,h2];cases dX P T with
 | none=>rfl
 | some t =>
   simp only
   cases lo with
   | none =>
     simp only
     cases x<;>try rfl
     case own s g=>simp only[hx s g rfl]
     case v y =>
      cases y<;>try rfl
      rename_i p n c;cases p<;>cases n<;>cases c<;>rfl
   | some l =>
     simp only[hl l rfl];cases x<;>try rfl
     case own s g=>simp only[hx s g rfl]
     case v y =>
      cases y<;>try rfl
      rename_i p n c;cases p<;>cases n<;>cases c<;>rfl
theorem TU {T:Nat} {m x:AV} {ok:Bool} (hm:mI st.aQ m) (hh:qC st st'):Wq P st' T m x ok=Wq P st T m x ok:=by
 unfold Wq;cases m<;>try rfl
 simp only[hh _ _ hm.mp]
theorem GC {T:Nat} {m x y:AV} (hm:mI st.aQ m) (hh:qC st st'):uP P st' T m x y=uP P st T m x y:=by
 unfold uP;cases m<;>try rfl
 simp only[hh _ _ hm.mp]
theorem MR {r:AV} {dst:Option Nat} (hc:∀d,dst=some d->st'.aQ d=st.aQ d):iZ r st' dst=iZ r st dst:=by
 unfold iZ;cases dst with
 | none=>rfl
 | some d=>simp only[hc d rfl]
theorem vH (hp:CT st) {g:Nat} {args:List AV} {dst:Option Nat} (hx:∀x∈args,mI st.aQ x) (hh:qC st st') (hc:∀d,dst=some d->st'.aQ d=st.aQ d):bH call g args st' dst=bH call g args st dst:=by
 unfold bH;have:args.map (fS st')=args.map (fS st):=map_congr_left fun x Lp=>CU hp (hx x Lp) hh
 rw[this];have h2:∀r,iZ r st' dst=iZ r st dst:=fun r=>MR hc
 simp only[h2]
theorem MS (hp:CT st) {g:Nat} {args:List AV} {dst:Option Nat} (hx:∀x∈args,mI st.aQ x) (hh:qC st st') (hc:∀d,dst=some d->st'.aQ d=st.aQ d):lP call g args st' dst=lP call g args st dst:=by
 unfold lP;split
 ·rename_i s k rest;rw[hh _ _ (hx _ (mem_cons_self ..)).own];cases dst with
  | none=>rfl
  | some d=>simp only[hc d rfl]
 ·rw[vH hp hx hh hc]
theorem GD (hp:CT st) {g:Nat} {args:List AV} {dst:Option Nat} (hx:∀x∈args,mI st.aQ x) (hh:qC st st') (hc:∀d,dst=some d->st'.aQ d=st.aQ d):fJ call g args st' dst=fJ call g args st dst:=by
 have h1:=vH (call:=call) (g:=g) hp hx hh hc
 have:args.map (fS st')=args.map (fS st):=map_congr_left fun x Lp=>CU hp (hx x Lp) hh
 unfold fJ;rw[this,h1];have h2:∀r s k,Gr r st' dst s k=Gr r st dst s k:=fun r s k=>by
  unfold Gr;cases dst with
  | none=>cases r<;>rfl
  | some d=>cases r<;>simp only[hc d rfl]
 simp only[h2]
theorem MT (hp:CT st) {g:Nat} {args:List AV} {dst:Option Nat} (hx:∀x∈args,mI st.aQ x) (hh:qC st st') (hc:∀d,dst=some d->st'.aQ d=st.aQ d):uQ call g args st' dst=uQ call g args st dst:=by
 unfold uQ;split
 ·rename_i x s k;rw[hh _ _ (hx (.own s k) (by simp)).own]
 ·rw[vH hp hx hh hc]
theorem Si {parts:List (Nat × Operand)} (h:∀p∈parts,st'.ev p.2=st.ev p.2):(parts.map fun p=>(p.1,st'.ev p.2))=parts.map fun p=>(p.1,st.ev p.2) :=
 map_congr_left fun p hp=>by rw[h p hp]
theorem Zl {parts:List (Nat × Operand)} (h:∀p∈parts,st'.ev p.2=st.ev p.2):(parts.all fun p=>(st'.ev p.2).jH)=parts.all fun p=>(st.ev p.2).jH:=by
 induction parts with
 | nil=>rfl
 | cons p ps ih =>
   simp only[all_cons];rw[h p (by simp),ih fun q hq=>h q (by simp[hq])]
theorem R6 {aQ:Nat->Nat} {x:AV} {g:Nat} {mK:List AV} (h:KO x=some (g,mK)) (hx:mI aQ x):∀c∈mK,mI aQ c:=by
 unfold KO at h;split at h
 ·split at h
  ·simp only[aAk,Prod.mk.injEq] at h;obtain⟨rfl,rfl⟩:=h
   simp
  ·cases h
 ·simp only[aAk,Prod.mk.injEq] at h;obtain⟨rfl,rfl⟩:=h
  exact hx.sH
 ·cases h
variable [Ext]
theorem GF (hp:CT st) {c:Call} {dst:Option Nat} (he:∀p∈c.operands,st'.ev p=st.ev p) (hi:∀p∈c.operands,mI st.aQ (st.ev p)) (hh:qC st st') (hc:∀d,dst=some d->st'.aQ d=st.aQ d) :
 iT P call c dst st'=iT P call c dst st:=by
 have vV:∀p∈c.args.toList,p∈c.operands:=fun p hp=>by simp[Call.operands];right;simpa using hp
 unfold iT;split
 ·rename_i f hf;have hfo:f∈c.operands:=by simp[Call.operands,hf]
  have hm:c.args.toList.map st'.ev=c.args.toList.map st.ev:=map_congr_left fun p hp=>he p (vV p hp)
  have hia:∀x∈c.args.toList.map st.ev,mI st.aQ x:=fun x hx=>by
   obtain⟨p,hp,rfl⟩:=mem_map.1 hx
   exact hi p (vV p hp)
  unfold oQ;rw[hm];split
  ·split
   ·exact MS hp hia hh hc
   ·split
    ·exact GD hp hia hh hc
    ·split
     ·exact MT hp hia hh hc
     ·exact vH hp hia hh hc
  ·rw[he f hfo];cases h:KO (st.ev f) with
   | none=>rfl
   | some gc =>
     obtain⟨g,mK⟩:=gc
     refine vH hp (fun x hx=>?_) hh hc
     rcases mem_append.1 hx with hx|hx
     ·exact hia x hx
     ·exact R6 h (hi f hfo) x hx
 ·split
  ·rename_i x T hx hT;have hxo:=vV x (by rw[hx];simp)
   rw[he x hxo,tJ (hi x hxo) hh]
  ·rfl
 ·split
  ·rename_i x y hx;rw[he x (vV x (by rw[hx];simp)),he y (vV y (by rw[hx];simp))]
  ·rfl
 ·split
  ·rename_i x y hx;rw[he x (vV x (by rw[hx];simp)),he y (vV y (by rw[hx];simp))]
  ·rfl
 ·cases dst with
  | none=>rfl
  | some d =>
  simp only[cT];split
  ·rename_i s x T T' hx hT
   have hso:=vV s (by rw[hx];simp)
   have hxo:=vV x (by rw[hx];simp)
   have hn:Iy P st' T (st'.ev s) (st'.ev x)=Iy P st T (st.ev s) (st.ev x):=by simp only[Iy,he s hso,he x hxo,tJ (hi x hxo) hh]
   rw[hn,he s hso,he x hxo,GA (hi s hso) (hi x hxo) hh,GB (hi s hso) (hi x hxo) hh,hc d rfl]
  ·rfl
 ·split
  ·rename_i x T hx hT;have hxo:=vV x (by rw[hx];simp)
   rw[he x hxo,MQ (hi x hxo) hh]
  ·rfl
 ·rfl
theorem TV (hp:CT st) {o:Oper} (he:∀p∈o.op.operands,st'.ev p=st.ev p) (hi:∀p∈o.op.operands,mI st.aQ (st.ev p)) (hh:qC st st') (hc:∀d,o.dst=some d->st'.aQ d=st.aQ d) :
 dU P call o st'=dU P call o st:=by
 obtain⟨dst,op,type,pos,after,guard⟩:=o
 cases op<;>simp only[dU,iY,Op.operands] at *
 case call c=>exact GF hp he hi hh hc
 case alloc T=>cases dst with
  | none=>rfl
  | some d=>simp only[cT,hc d rfl]
 case box T x=>cases dst with
  | none=>rfl
  | some d=>simp only[cT,hc d rfl,he x (by simp)]
 case buildSlice T n parts =>
  have zX:∀p∈parts.toList,st'.ev p.2=st.ev p.2:=fun p hp=>he p.2 (by simp;exact⟨p.1,by simpa using hp⟩)
  rw[Si zX,Zl zX];cases dst with
  | none=>rfl
  | some d=>simp only[cT,hc d rfl]
 case makeSlice T l c =>
  rw[he l (by simp),he c (by simp)]
  cases dst with
  | none=>rfl
  | some d=>simp only[cT,hc d rfl]
 case makeMap T r =>
  cases r with
  | none=>cases dst with
    | none=>rfl
    | some d=>simp only[cT,hc d rfl]
  | some r=>rfl
 case mapUpdate T m x y=>rw[he m (by simp),he x (by simp),he y (by simp),GC (hi m (by simp)) hh]
 case lookup T m x ok=>rw[he m (by simp),he x (by simp),TU (hi m (by simp)) hh]
 case store T x y=>rw[he x (by simp),he y (by simp),MP (hi x (by simp)) hh]
 case move x=>rw[he x (by simp)]
 case assign x=>rw[he x (by simp)]
 case pick c x y=>rw[he c (by simp),he x (by simp),he y (by simp)]
 case binOp op T x y yT=>rw[he x (by simp),he y (by simp)]
 case unOp op T x=>rw[he x (by simp)]
 case convert s d x=>rw[he x (by simp)]
 case nilCheck x=>rw[he x (by simp)]
 case field T x f=>rw[he x (by simp)]
 case fieldAddr T x f=>rw[he x (by simp)]
 case indexAddr T x i=>rw[he x (by simp),he i (by simp),Vl (hi x (by simp)) hh]
 case load T x=>rw[he x (by simp),MN (hi x (by simp)) hh]
 case extract t i=>rw[he t (by simp)]
 case build T parts =>
  have zX:∀p∈parts.toList,st'.ev p.2=st.ev p.2:=fun p hp=>he p.2 (by simp;exact⟨p.1,by simpa using hp⟩)
  unfold iX;rw[Si zX,Zl zX]
 case slice T x lo Ei mx =>
  cases mx with
  | some m =>
    cases Ei with
    | none=>rfl
    | some h =>
      simp only
      rw[he x (by simp),Xk (fun s g hx=>by have:=hi x (by simp);rw[hx] at this;exact hh _ _ this.own) (fun p hp=>he p (by simp[hp])) (he h (by simp)) (he m (by simp))]
  | none =>
    simp only
    rw[he x (by simp),MO (hi x (by simp)) hh (fun p hp=>he p (by simp[hp])) (fun p hp=>he p (by simp[hp]))]
 case makeFunc fn first captured =>
  cases fn with
  | func f =>
    simp only
    have:captured.toList.map st'.ev=captured.toList.map st.ev:=map_congr_left fun p hp=>he p (by simp;right;simpa using hp)
    rw[this]
  | _=>rfl
theorem MU {ops:Array Oper} {o:Oper} (zO:mV ops o=0\/mV ops o=2) (he:∀p∈o.op.operands,st'.ev p=st.ev p) (hc:∀d,o.dst=some d->st'.aQ d=st.aQ d) :
 dU P call o st'=dU P call o st:=by
 obtain⟨dst,op,type,pos,after,guard⟩:=o
 cases op<;>simp only[dU,iY,Op.operands,mV] at *
 case call c =>
  exfalso
  obtain⟨callee,args,uF⟩:=c
  cases callee with
  | builtin b=>cases b<;>simp at zO;split at zO<;>simp at zO
  | value f=>cases f<;>simp at zO;split at zO<;>(try split at zO)<;>(try split at zO)<;>simp at zO
  | _=>simp at zO
 case alloc T=>cases dst with
  | none=>rfl
  | some d=>simp only[cT,hc d rfl]
 case box T x=>cases dst with
  | none=>rfl
  | some d=>simp only[cT,hc d rfl,he x (by simp)]
 case buildSlice T n parts =>
  have zX:∀p∈parts.toList,st'.ev p.2=st.ev p.2:=fun p hp=>he p.2 (by simp;exact⟨p.1,by simpa using hp⟩)
  rw[Si zX,Zl zX];cases dst with
  | none=>rfl
  | some d=>simp only[cT,hc d rfl]
 case makeSlice T l c =>
  rw[he l (by simp),he c (by simp)]
  cases dst with
  | none=>rfl
  | some d=>simp only[cT,hc d rfl]
 case makeMap T r =>
  cases r with
  | none=>cases dst with
    | none=>rfl
    | some d=>simp only[cT,hc d rfl]
  | some r=>rfl
 case mapUpdate T m x y=>simp at zO
 case lookup T m x ok=>simp at zO
 case store T x y=>simp at zO
 case move x=>rw[he x (by simp)]
 case assign x=>rw[he x (by simp)]
 case pick c x y=>rw[he c (by simp),he x (by simp),he y (by simp)]
 case binOp op T x y yT=>rw[he x (by simp),he y (by simp)]
 case unOp op T x=>rw[he x (by simp)]
 case convert s d x=>rw[he x (by simp)]
 case nilCheck x=>rw[he x (by simp)]
 case field T x f=>rw[he x (by simp)]
 case fieldAddr T x f=>rw[he x (by simp)]
 case indexAddr T x i=>simp at zO
 case load T x=>simp at zO
 case extract t i=>rw[he t (by simp)]
 case build T parts =>
  have zX:∀p∈parts.toList,st'.ev p.2=st.ev p.2:=fun p hp=>he p.2 (by simp;exact⟨p.1,by simpa using hp⟩)
  unfold iX;rw[Si zX,Zl zX]
 case slice T x lo Ei mx=>simp at zO
 case makeFunc fn first captured =>
  cases fn with
  | func f =>
    simp only
    have:captured.toList.map st'.ev=captured.toList.map st.ev:=map_congr_left fun p hp=>he p (by simp;right;simpa using hp)
    rw[this]
  | _=>rfl
end
end Go.Ab
end
section
namespace Go.Ab
open Classical
section
variable {P:Program} {call:Nat->List AV->Option AV} {st st':St} {ops:Array Oper}
theorem Sj {r:AV} {dst:Option Nat} {e:qZ} (h:iZ r st dst=some e):e.dst=dst/\e.dP=none/\∀d x,e.new=some (d,x)->dst=some d:=by
 unfold iZ at h;split at h
 ·simp only[aAk] at h;subst h;exact⟨rfl,rfl,fun d x h=>by simp at h⟩
 ·cases dst with
  | none=>cases h
  | some d=>simp only[aAk] at h;subst h;exact⟨rfl,rfl,fun d x h=>by simp at h;rw[h.1]⟩
theorem vI {g:Nat} {args:List AV} {dst:Option Nat} {e:qZ} (h:bH call g args st dst=some e):e.dst=dst/\e.dP=none/\∀d x,e.new=some (d,x)->dst=some d:=by
 unfold bH at h;split at h
 ·cases hc:call g args with
  | none=>simp[hc,cT] at h
  | some r=>simp only[hc,cT] at h;exact Sj h
 ·split at h
  ·rename_i xs _;cases hc:call g xs with
   | none=>simp[hc,cT] at h
   | some r =>
     simp only[hc,cT] at h;split at h
     ·exact Sj h
     ·cases h
  ·cases h
theorem Sk {g:Nat} {args:List AV} {dst:Option Nat} {e:qZ} (h:lP call g args st dst=some e):e.dst=dst/\(∀d x,e.new=some (d,x)->dst=some d)/\∀s k x,e.dP=some (s,k,x)->args.head? = some (.own s k):=by
 unfold lP at h;split at h
 ·split at h
  ·split at h
   ·split at h
    ·cases dst with
     | none=>cases h
     | some d =>
       simp only[aAk] at h;subst h;exact⟨rfl,fun d x h=>by simp at h;rw[h.1],fun s k x h=>by simp at h;simp[h.1,h.2.1]⟩
    ·simp only[aAk] at h;subst h;exact⟨rfl,fun d x h=>by simp at h,fun s k x h=>by simp at h;simp[h.1,h.2.1]⟩
    ·cases h
   ·cases h
  ·cases h
 ·split at h
  ·obtain⟨h1,h2,h3⟩:=vI h
   exact⟨h1,h3,fun s k x h=>by rw[h2] at h;cases h⟩
  ·cases h
theorem MV {g:Nat} {args:List AV} {dst:Option Nat} {e:qZ} (h:uQ call g args st dst=some e):e.dst=dst/\e.dP=none/\∀d x,e.new=some (d,x)->dst=some d:=by
 unfold uQ at h;split at h
 ·split at h
  ·split at h
   ·split at h
    ·split at h
     ·simp only[aAk] at h;subst h;exact⟨rfl,rfl,fun d x h=>by simp at h⟩
     ·cases h
    ·cases h
   ·cases h
  ·cases h
 ·split at h
  ·exact vI h
  ·cases h
theorem GG {g:Nat} {args:List AV} {dst:Option Nat} {e:qZ} (h:fJ call g args st dst=some e):e.dst=dst/\(∀d x,e.new=some (d,x)->dst=some d)/\∀s k x,e.dP=some (s,k,x)->∃y∈args,y=.own s k\/∃cs,y=.agg cs/\.own s k∈cs:=by
 unfold fJ at h;split at h
 ·rename_i s k hk;split at h
  ·split at h
   ·rename_i xs _;cases hc:call g xs with
    | none=>simp[hc,cT] at h
    | some r =>
      simp only[hc,cT] at h;have hu:e.dP=some (s,k,none)/\e.dst=dst/\∀d x,e.new=some (d,x)->dst=some d:=by
       rcases Sh h with ⟨_,rfl⟩|⟨_,e1,sz,n,cs,d,rfl,rfl,_,rfl⟩
       ·exact⟨rfl,rfl,fun d x h=>by simp at h⟩
       ·exact⟨rfl,rfl,fun d x h=>by simp at h;rw[h.1]⟩
      ·refine⟨hu.2.1,hu.2.2,fun s' k' x h=>?_⟩
       rw[hu.1] at h;simp only[aAk,Prod.mk.injEq] at h;obtain⟨rfl,rfl,_⟩:=h
       have hm:(s,k)∈args.flatMap jI:=by rw[hk];simp
       obtain⟨y,hy,hyk⟩:=mem_flatMap.1 hm
       refine⟨y,hy, ?_⟩
       have key:∀c,(s,k)∈iB c->c=.own s k:=fun c hc=>by
        cases c<;>simp[iB] at hc
        obtain⟨rfl,rfl⟩:=hc
        rfl
       cases y with
       | agg cs =>
         obtain⟨c,hc,hck⟩:=mem_flatMap.1 (show (s,k)∈cs.flatMap iB from hyk)
         exact .inr ⟨cs,rfl,by rw[<- key c hck];exact hc⟩
       | own a b=>exact .inl (key _ hyk)
       | _=>simp[jI,iB] at hyk
   ·cases h
  ·cases h
 ·obtain⟨h1,h2,h3⟩:=vI h
  exact⟨h1,h3,fun s k x h=>by rw[h2] at h;cases h⟩
theorem pF (e:qZ) (t:Nat):(e.apply st).env t=if e.dst=some t then e.val else st.env t:=by
 have h2:∀(s1:St),(s1.put e.dst e.val).env t=if e.dst=some t then e.val else s1.env t:=fun s1=>by
  cases hd:e.dst with
  | none=>simp[St.put]
  | some d =>
    simp only[St.put,aAk];by_cases h:t=d
    ·subst h;simp
    ·rw[if_neg h,if_neg (fun h'=>h h'.symm)]
 unfold qZ.apply;rw[h2];cases e.dP<;>cases e.new<;>rfl
theorem lN (e:qZ) (s:Nat):(e.apply st).aQ s=match e.new with
 | some (d,es)=>if s=d then st.aQ d+es.length else st.aQ s
 | none=>st.aQ s:=by
 unfold qZ.apply;rw[E5];cases e.dP<;>cases e.new<;>rfl
theorem tQ (e:qZ) (s g:Nat):(e.apply st).heap s g=match e.new with
 | some (d,es)=>if s=d/\st.aQ d<=g/\g-st.aQ d<es.length then es[g-st.aQ d]? else (match e.dP with
   | some (s0,g0,y)=>if s=s0/\g=g0 then y else st.heap s g
   | none=>st.heap s g)
 | none=>(match e.dP with
   | some (s0,g0,y)=>if s=s0/\g=g0 then y else st.heap s g
   | none=>st.heap s g):=by
 unfold qZ.apply;rw[Zx];cases e.dP<;>cases e.new<;>rfl
theorem aB1 {o:Oper} (h:∀j want d,o.guard=some (j,want)->(ops[j]?).bind (·.dst)=some d->st'.env d=st.env d):gv ops st' o.guard=gv ops st o.guard:=by
 unfold gv;cases hg:o.guard with
 | none=>rfl
 | some jw =>
   obtain⟨j,want⟩:=jw
   simp only
   cases hd:(ops[j]?).bind (·.dst) with
   | none=>rfl
   | some d=>simp only[h j want d hg hd]
theorem aB2 {a b:St} (h1:a.env=b.env) (h2:a.heap=b.heap) (h3:a.aQ=b.aQ):a=b:=by
 cases a;cases b;simp_all
theorem CV {T:Nat} {p x:AV} {u:Nat × Nat × oA × Nat} (h:oP P st T p x=some u):∃n,p=.vw u.1 u.2.1 0 n:=by
 unfold oP at h;split at h
 ·split at h
  ·split at h
   ·simp only[aAk] at h;subst h;exact⟨_,rfl⟩
   ·cases h
  ·cases h
 ·cases h
theorem R7 {T:Nat} {p:AV} {u:Nat × Nat × oA} (h:sQ P st T p=some (some u)):∃o n,p=.vw u.1 u.2.1 o n:=by
 unfold sQ at h;split at h
 ·split at h
  ·split at h
   ·simp only[aAk] at h;subst h;exact⟨_,_,rfl⟩
   ·cases h
  ·cases h
 ·simp at h
 ·simp at h
 ·cases h
variable [Ext]
theorem TW {o:Oper} {e:qZ} (h:dU P call o st=some e) :
 e.dst=o.dst/\(∀d x,e.new=some (d,x)->o.dst=some d)/\(∀s g x,e.dP=some (s,g,x)->mV ops o=3/\∃p∈o.op.operands,(∃off,st.ev p=.ptr s g off)\/st.ev p=.own s g\/st.ev p=.mp s g\/(∃cs,st.ev p=.agg cs/\.own s g∈cs)\/∃o n,st.ev p=.vw s g o n):=by
 obtain⟨dst,op,type,pos,after,guard⟩:=o
 have val:∀x:Option AV,(x.map fun y=>({ dst:=dst,val:=y }:qZ))=some e->e.dst=dst/\(∀d x,e.new=some (d,x)->dst=some d)/\(∀s g x,e.dP≠some (s,g,x)):=fun x h=>by
  cases x with
  | none=>simp at h
  | some y=>simp at h;subst h;exact⟨rfl,fun d x h=>by simp at h,fun s g x h=>by simp at h⟩
 cases op
 case call c =>
  simp only[dU] at h;unfold iT at h;split at h
  ·rename_i f hc;unfold oQ at h;split at h
   ·rename_i g;split at h
    ·rename_i hmv;obtain⟨h1,h2,h3⟩:=Sk h
     refine⟨h1,h2,fun s k x hu=>?_⟩
     have hh:=h3 s k x hu
     obtain⟨callee,args,uF⟩:=c
     simp only at hc hh
     subst hc;cases hl:args.toList with
     | nil=>rw[hl] at hh;simp at hh
     | cons p ps =>
       rw[hl] at hh;simp only[map_cons,head?_cons,aAk] at hh;refine⟨?_,p, ?_,.inr (.inl hh)⟩
       ·simp only[mV,hl,hmv];cases p with
        | const v=>simp[St.ev] at hh
        | _=>simp
       simp only[Op.operands,Call.operands];simp
       right
       rw[<- Array.mem_toList_iff,hl];simp
    ·split at h
     ·rename_i heat;obtain⟨h1,h2,h3⟩:=GG h
      refine⟨h1,h2,fun s k x hu=>?_⟩
      obtain⟨y,hy,hyo⟩:=h3 s k x hu
      obtain⟨callee,args,uF⟩:=c
      simp only at hc hy
      subst hc;refine⟨by simp[mV,heat], ?_⟩
      obtain⟨p,hp,rfl⟩:=mem_map.1 hy
      refine⟨p, ?_, ?_⟩
      ·simp only[Op.operands,Call.operands];simp
       right
       simpa using hp
      ·rcases hyo with h|⟨cs,h,hm⟩
       ·exact .inr (.inl h)
       ·exact .inr (.inr (.inr (.inl ⟨cs,h,hm⟩)))
     ·split at h
      ·obtain⟨h1,h2,h3⟩:=MV h
       exact⟨h1,h3,fun s g x h=>by rw[h2] at h;cases h⟩
      ·obtain⟨h1,h2,h3⟩:=vI h
       exact⟨h1,h3,fun s g x h=>by rw[h2] at h;cases h⟩
   ·split at h
    ·obtain⟨h1,h2,h3⟩:=vI h
     exact⟨h1,h3,fun s g x h=>by rw[h2] at h;cases h⟩
    ·cases h
  ·split at h
   ·split at h
    ·simp only[aAk] at h;subst h;exact⟨rfl,fun d x h=>by simp at h,fun s g x h=>by simp at h⟩
    ·cases h
   ·cases h
  ·split at h
   ·split at h
    ·simp only[aAk] at h;subst h;exact⟨rfl,fun d x h=>by simp at h,fun s g x h=>by simp at h⟩
    ·cases h
   ·cases h
  ·split at h
   ·split at h
    ·simp only[aAk] at h;subst h;exact⟨rfl,fun d x h=>by simp at h,fun s g x h=>by simp at h⟩
    ·cases h
   ·cases h
  ·rename_i hc;cases dst with
   | none=>simp[cT] at h
   | some d =>
     simp only[cT] at h;split at h
     ·rename_i s x T T' hx hT
      split at h
      ·split at h
       ·cases oE:oP P st T (st.ev s) (st.ev x) with
        | none=>simp[oE] at h
        | some u =>
        simp only[oE,aAo,aAk] at h;subst h;refine⟨rfl,nofun,fun s' g' x' hu=>?_⟩
        simp only[aAk,Prod.mk.injEq] at hu;obtain⟨rfl,rfl,rfl⟩:=hu
        obtain⟨n0,vR⟩:=CV oE
        refine⟨?_,s, ?_,.inr (.inr (.inr (.inr ⟨0,n0,vR⟩)))⟩
        ·obtain⟨callee,args,uF⟩:=c
         simp only at hc hx
         subst hc;simp only[mV,hx];cases s with
         | const v =>
           simp[St.ev] at vR
         | _=>rfl
        ·simp only[Op.operands,Call.operands,hc];simp
         rw[<- Array.mem_toList_iff,hx];simp
       split at h
       ·simp only[aAk] at h;subst h;exact⟨rfl,nofun,nofun⟩
       cases oE:dJ P st T (st.ev s) (st.ev x) with
       | none=>simp[oE] at h
       | some ur =>
         obtain⟨u,r⟩:=ur
         simp only[oE,aAk] at h;subst h;refine⟨rfl,fun d x h=>by simp at h;rw[h.1],fun s' g' x' hu=>?_⟩
         simp only[Option.map_eq_some_iff] at hu;obtain⟨⟨s2,g2⟩,hu1,hu2⟩:=hu
         simp only[Prod.mk.injEq] at hu2;obtain⟨rfl,rfl,rfl⟩:=hu2
         subst hu1;have vR:st.ev s=.own s2 g2:=by
          unfold dJ at oE;split at oE
          ·split at oE
           ·split at oE
            ·split at oE
             ·split at oE<;>simp at oE
             ·rename_i s3 g3 hs3;split at oE
              ·split at oE
               ·simp only[aAk,Prod.mk.injEq] at oE;obtain⟨⟨rfl,rfl⟩,_⟩:=oE
                exact hs3
               ·cases oE
              ·cases oE
             ·split at oE<;>simp at oE
             ·cases oE
            ·cases oE
           ·cases oE
          ·cases oE
         refine⟨?_,s, ?_,.inr (.inl vR)⟩
         ·obtain⟨callee,args,uF⟩:=c
          simp only at hc hx
          subst hc;simp only[mV,hx];cases s with
          | const v =>
            simp[St.ev] at vR
          | _=>rfl
         ·simp only[Op.operands,Call.operands,hc];simp
          rw[<- Array.mem_toList_iff,hx];simp
      ·cases h
     ·cases h
  ·rename_i hc;split at h
   ·rename_i x T hx hT;cases oE:sQ P st T (st.ev x) with
    | none=>simp[oE] at h
    | some u =>
      simp only[oE,aAo,aAk] at h;subst h;refine⟨rfl,nofun,fun s' g' x' hu=>?_⟩
      simp only[Option.map_eq_some_iff,Prod.mk.injEq] at hu;obtain⟨p,rfl,rfl,rfl,_⟩:=hu
      obtain⟨o,n,vR⟩:=R7 oE
      refine⟨?_,x, ?_,.inr (.inr (.inr (.inr ⟨o,n,vR⟩)))⟩
      ·obtain⟨callee,args,uF⟩:=c
       simp only at hc
       subst hc;rfl
      ·simp only[Op.operands,Call.operands,hc];simp
       rw[<- Array.mem_toList_iff,hx];simp
   ·cases h
  ·cases h
 case store T x y =>
  simp only[dU] at h;cases hs:qQ P st T (st.ev x) (st.ev y) with
  | none=>simp[hs] at h
  | some u =>
    obtain⟨s,g,e'⟩:=u
    simp only[hs,aAo,aAk] at h;subst h;refine⟨rfl,fun d x h=>by simp at h,fun s' g' x' hu=>⟨rfl,x,by simp[Op.operands],.inl ?_⟩⟩
    simp only[aAk,Prod.mk.injEq] at hu;obtain⟨rfl,rfl,_⟩:=hu
    unfold qQ at hs;split at hs
    ·rename_i s1 g1 o1 hp;refine⟨o1, ?_⟩
     rw[hp];split at hs
     ·split at hs
      ·split at hs
       ·split at hs
        ·simp only[aAk,Prod.mk.injEq] at hs;rw[hs.1,hs.2.1]
        ·cases hs
       ·split at hs
        ·simp only[aAk,Prod.mk.injEq] at hs;rw[hs.1,hs.2.1]
        ·cases hs
       ·cases hs
      ·cases hs
     ·cases hs
    ·cases hs
 case alloc T =>
  simp only[dU] at h;cases dst with
  | none=>simp[cT] at h
  | some d=>cases hz:eK P T with
    | none=>simp[hz,cT] at h
    | some z=>simp only[hz,cT,aAk] at h;subst h;exact⟨rfl,fun d x h=>by simp at h;rw[h.1],fun s g x h=>by simp at h⟩
 case box T x =>
  simp only[dU] at h;cases dst with
  | none=>simp[cT] at h
  | some d =>
    simp only[cT] at h;split at h
    ·simp only[aAk] at h;subst h;exact⟨rfl,fun d x h=>by simp at h;rw[h.1],fun s g x h=>by simp at h⟩
    ·cases h
 case buildSlice T n parts =>
  simp only[dU] at h;cases dst with
  | none=>simp[cT] at h
  | some d=>cases hs:dX P T with
    | none=>simp[hs,cT] at h
    | some t=>cases hz:eK P t.1 with
      | none=>simp[hs,hz,cT] at h
      | some z =>
        simp only[hs,hz,cT] at h;split at h
        ·cases hf:gS (fun i=>some (i * t.2.1,t.2.1)) ((List.range n).flatMap fun _=>z.map .v) (parts.toList.map fun p=>(p.1,st.ev p.2)) with
         | none=>simp[hf] at h
         | some cs=>simp only[hf,aAk] at h;subst h;exact⟨rfl,fun d x h=>by simp at h;rw[h.1],fun s g x h=>by simp at h⟩
        ·cases h
 case makeSlice T l c =>
  simp only[dU] at h;cases dst with
  | none=>simp[cT] at h
  | some d=>cases hs:dX P T with
    | none=>simp[hs,cT] at h
    | some t=>cases hz:eK P t.1 with
      | none=>simp[hs,hz,cT] at h
      | some z =>
        simp only[hs,hz,cT] at h;split at h
        ·split at h
         ·simp only[aAk] at h;subst h;exact⟨rfl,fun d x h=>by simp at h;rw[h.1],fun s g x h=>by simp at h⟩
         ·cases h
        ·cases h
 case makeMap T r =>
  cases r with
  | none =>
    simp only[dU] at h;cases dst with
    | none=>simp[cT] at h
    | some d=>simp only[cT,aAk] at h;subst h;exact⟨rfl,fun d x h=>by simp at h;rw[h.1],fun s g x h=>by simp at h⟩
  | some r =>
    simp only[dU] at h;obtain⟨h1,h2,h3⟩:=val _ h
    exact⟨h1,h2,fun s g x hu=>absurd hu (h3 s g x)⟩
 case mapUpdate T m x y =>
  simp only[dU] at h;cases hs:uP P st T (st.ev m) (st.ev x) (st.ev y) with
  | none=>simp[hs] at h
  | some u =>
    obtain⟨s,g,e'⟩:=u
    simp only[hs,aAo,aAk] at h;subst h;refine⟨rfl,fun d x h=>by simp at h,fun s' g' x' hu=>⟨rfl,m,by simp[Op.operands],.inr (.inr (.inl ?_))⟩⟩
    simp only[aAk,Prod.mk.injEq] at hu;obtain⟨rfl,rfl,_⟩:=hu
    unfold uP at hs;split at hs
    ·rename_i s1 g1 hp;rw[hp];split at hs
     ·split at hs
      ·simp only[aAk,Prod.mk.injEq] at hs;rw[hs.1,hs.2.1]
      ·cases hs
     ·cases hs
    ·cases hs
 all_goals
  simp only[dU] at h;obtain⟨h1,h2,h3⟩:=val _ h
  exact⟨h1,h2,fun s g x hu=>absurd hu (h3 s g x)⟩
def sM (P:Program) (call:Nat->List AV->Option AV) (ops:Array Oper) (o:Oper) (st:St):Option qZ :=
 match gv ops st o.guard with
 | some b=>if b=true then dU P call o st else some { dst:=o.dst,val:=.v undef }
 | none=>none
theorem Hm (o:Oper):cI P call ops o st=(sM P call ops o st).map fun e=>e.apply st:=by
 unfold cI sM;cases gv ops st o.guard with
 | none=>rfl
 | some b=>cases b<;>rfl
theorem pQ {o:Oper} {e:qZ} (h:sM P call ops o st=some e) :
 e.dst=o.dst/\(∀d x,e.new=some (d,x)->o.dst=some d)/\(∀s g x,e.dP=some (s,g,x)->mV ops o=3/\∃p∈o.op.operands,(∃off,st.ev p=.ptr s g off)\/st.ev p=.own s g\/st.ev p=.mp s g\/(∃cs,st.ev p=.agg cs/\.own s g∈cs)\/∃o n,st.ev p=.vw s g o n):=by
 unfold sM at h;split at h
 ·split at h
  ·exact TW h
  ·simp only[aAk] at h;subst h;exact⟨rfl,fun d x h=>by simp at h,fun s g x h=>by simp at h⟩
 ·cases h
theorem Xl (hp:CT st) {x y:Oper} {ex:qZ} (oE:tF ops x y=true\/tF ops y x=true) (Pb:∀t,mI st.aQ (st.env t)) (hx:sM P call ops x st=some ex) :
 sM P call ops y (ex.apply st)=sM P call ops y st:=by
 obtain⟨sd,sn,su⟩:=pQ hx
 have J5:(∀d,x.dst=some d->d ∉ y.looksAt ops)/\(∀d,x.dst=some d->y.dst≠some d):=by
  rcases oE with h|h
  ·simp only[tF,Bool.and_eq_true] at h;obtain⟨h1,h2,_⟩:=Oper.apart_spec h.1
   exact⟨h1,h2⟩
  ·simp only[tF,Bool.and_eq_true] at h;obtain⟨_,h2,h3⟩:=Oper.apart_spec h.1
   exact⟨h3,fun d hd hy=>h2 d hy hd⟩
 have henv:∀t,t∈y.looksAt ops->(ex.apply st).env t=st.env t:=fun t ht=>by
  rw[pF,if_neg];intro h;rw[sd] at h;exact J5.1 t h ht
 have Ow:∀p∈y.op.operands,(ex.apply st).ev p=st.ev p:=fun p hp=>by
  cases p with
  | tmp t=>exact henv t (by unfold Oper.looksAt;exact mem_append_left _ (mem_filterMap.2 ⟨.tmp t,by simpa using hp,rfl⟩))
  | _=>rfl
 have hgv:gv ops (ex.apply st) y.guard=gv ops st y.guard:=aB1 fun j want d hg hd=>henv d (by
  unfold Oper.looksAt;apply mem_append_right
  rw[hg];simp[hd])
 have hcnt:∀d,y.dst=some d->(ex.apply st).aQ d=st.aQ d:=fun d hd=>by
  rw[lN];split
  ·rename_i d' z hn
   have:=sn d' z hn
   rw[if_neg];rintro rfl
   exact J5.2 d this hd
  ·rfl
 have Yi:∀p∈y.op.operands,mI st.aQ (st.ev p):=fun p hp=>by
  cases p with
  | tmp t=>exact Pb t
  | const v=>exact⟨⟨fun _ _=>False,fun _ _=>undef,st.aQ⟩,v,rfl,.v v⟩
  | global g=>exact⟨⟨fun _ _=>False,fun _ _=>undef,st.aQ⟩,_,rfl,.v _⟩
  | func f=>exact⟨⟨fun _ _=>False,fun _ _=>undef,st.aQ⟩,_,rfl,.v _⟩
 have qV:dU P call y (ex.apply st)=dU P call y st:=by
  by_cases h3:mV ops x=3
  ·refine MU (ops:=ops) ?_ Ow hcnt
   have hle:mV ops y=0\/mV ops y=1\/mV ops y=2\/mV ops y=3\/mV ops y=4:=by
    unfold mV;split<;>(try split)<;>(try split)<;>(try split)<;>simp
   rcases oE with h|h<;>simp only[tF,Bool.and_eq_true,h3] at h<;>rcases hle with e|e|e|e|e<;>simp[e] at h ⊢
  ·have hnu:ex.dP=none:=by
    cases hu:ex.dP with
    | none=>rfl
    | some sgx=>exact absurd (su sgx.1 sgx.2.1 sgx.2.2 hu).1 h3
   refine TV hp Ow Yi (fun s g aW=>?_) hcnt
   rw[tQ,hnu];split
   ·rename_i d z hn;rw[if_neg];rintro⟨rfl,h,_⟩
    omega
   ·rfl
 unfold sM;rw[hgv,qV]
theorem MW {o:Oper} {e:qZ} {s g:Nat} {z:Option oA} (Pb:∀t,mI st.aQ (st.env t)) (h:sM P call ops o st=some e) (hu:e.dP=some (s,g,z)):g<st.aQ s:=by
 obtain⟨_,_,su⟩:=pQ h
 obtain⟨_,p,hp,hv⟩:=su s g z hu
 have Yi:mI st.aQ (st.ev p):=by
  cases p with
  | tmp t=>exact Pb t
  | const v=>exact⟨⟨fun _ _=>False,fun _ _=>undef,st.aQ⟩,v,rfl,.v v⟩
  | global g=>exact⟨⟨fun _ _=>False,fun _ _=>undef,st.aQ⟩,_,rfl,.v _⟩
  | func f=>exact⟨⟨fun _ _=>False,fun _ _=>undef,st.aQ⟩,_,rfl,.v _⟩
 rcases hv with ⟨off,hv⟩|hv|hv|⟨cs,hv,hm⟩|⟨o,n,hv⟩
 ·rw[hv] at Yi;exact Yi.ptr
 ·rw[hv] at Yi;exact Yi.own
 ·rw[hv] at Yi;exact Yi.mp
 ·rw[hv] at Yi;exact (Yi.agg _ hm).own
 ·rw[hv] at Yi;exact Yi.vw
theorem aE2 (hp:CT st) {x y:Oper} (oE:tF ops x y=true) (Pb:∀t,mI st.aQ (st.env t)) {s1 s2:St} (hx:cI P call ops x st=some s1) (hy:cI P call ops y s1=some s2) :
 ∃s3,cI P call ops y st=some s3/\cI P call ops x s3=some s2:=by
 rw[Hm] at hx hy;cases hex:sM P call ops x st with
 | none=>simp[hex] at hx
 | some ex =>
   simp only[hex,aAo,aAk] at hx;subst hx;rw[Xl hp (.inl oE) Pb hex] at hy;cases J6:sM P call ops y st with
   | none=>simp[J6] at hy
   | some ey =>
     simp only[J6,aAo,aAk] at hy;subst hy;refine⟨ey.apply st,by rw[Hm,J6];rfl, ?_⟩
     rw[Hm,Xl hp (.inr oE) Pb J6,hex];simp only[aAo,aAk];obtain⟨dx,nx,ux⟩:=pQ hex
     obtain⟨dy,ny,uy⟩:=pQ J6
     have hd:∀d,x.dst=some d->y.dst≠some d:=by
      simp only[tF,Bool.and_eq_true] at oE;exact (Oper.apart_spec oE.1).2.1
     have zO:¬(ex.dP≠none/\ey.dP≠none):=by
      rintro⟨h1,h2⟩
      cases hu:ex.dP with
      | none=>exact h1 hu
      | some a=>cases hv:ey.dP with
        | none=>exact h2 hv
        | some b =>
          have e1:=(ux a.1 a.2.1 a.2.2 hu).1
          have e2:=(uy b.1 b.2.1 b.2.2 hv).1
          simp[tF,e1,e2] at oE
     apply aB2
     ·funext t
      rw[pF,pF,pF,pF,dx,dy];by_cases h1:x.dst=some t
      ·rw[if_pos h1,if_pos h1,if_neg (hd t h1)]
      ·rw[if_neg h1,if_neg h1]
     ·funext s g
      rw[tQ,tQ,tQ,tQ];have cx:∀d z,ey.new=some (d,z)->(ex.apply st).aQ d=st.aQ d:=fun d z hn=>by
       rw[lN];split
       ·rename_i d' z' Hu
        rw[if_neg];rintro rfl
        exact hd _ (nx _ _ Hu) (ny _ _ hn)
       ·rfl
      have cy:∀d z,ex.new=some (d,z)->(ey.apply st).aQ d=st.aQ d:=fun d z hn=>by
       rw[lN];split
       ·rename_i d' z' Hu
        rw[if_neg];rintro rfl
        exact hd _ (nx _ _ hn) (ny _ _ Hu)
       ·rfl
      cases R9:ex.new with
      | none =>
        cases XS:ey.new with
        | none =>
          cases hux:ex.dP with
          | none=>rfl
          | some a=>cases huy:ey.dP with
            | none=>rfl
            | some b=>exact absurd ⟨by rw[hux];simp,by rw[huy];simp⟩ zO
        | some b =>
          obtain⟨d,z⟩:=b
          simp only[cx d z XS];cases hux:ex.dP with
          | none=>rfl
          | some a =>
            obtain⟨s0,g0,e0⟩:=a
            have aW:=MW Pb hex hux
            cases huy:ey.dP with
            | none =>
              simp only
              by_cases h1:s=d/\st.aQ d<=g/\g-st.aQ d<z.length
              ·rw[if_neg (by obtain⟨rfl,ha,hb⟩:=h1;rintro⟨rfl,rfl⟩;omega),if_pos h1,if_pos h1]
              ·rw[if_neg h1,if_neg h1]
            | some b=>exact absurd ⟨by rw[hux];simp,by rw[huy];simp⟩ zO
      | some a =>
        obtain⟨d,z⟩:=a
        cases XS:ey.new with
        | none =>
          simp only[cy d z R9];cases huy:ey.dP with
          | none=>rfl
          | some a =>
            obtain⟨s0,g0,e0⟩:=a
            have aW:=MW Pb J6 huy
            cases hux:ex.dP with
            | none =>
              simp only
              by_cases h1:s=d/\st.aQ d<=g/\g-st.aQ d<z.length
              ·rw[if_pos h1,if_neg (by obtain⟨rfl,ha,hb⟩:=h1;rintro⟨rfl,rfl⟩;omega),if_pos h1]
              ·rw[if_neg h1,if_neg h1]
            | some b=>exact absurd ⟨by rw[hux];simp,by rw[huy];simp⟩ zO
        | some b =>
          obtain⟨d',z'⟩:=b
          simp only[cy d z R9,cx d' z' XS];have S3:d≠d':=by
           rintro rfl
           exact hd _ (nx _ _ R9) (ny _ _ XS)
          cases hux:ex.dP with
          | none =>
            cases huy:ey.dP with
            | none =>
              simp only
              by_cases h1:s=d/\st.aQ d<=g/\g-st.aQ d<z.length
              ·rw[if_pos h1,if_pos h1,if_neg (fun h=>S3 (h1.1.symm.trans h.1))]
              ·rw[if_neg h1,if_neg h1]
            | some b =>
              obtain⟨s0,g0,e0⟩:=b
              have aW:=MW Pb J6 huy
              simp only
              by_cases h1:s=d/\st.aQ d<=g/\g-st.aQ d<z.length
              ·rw[if_pos h1,if_pos h1,if_neg (fun h=>S3 (h1.1.symm.trans h.1)),if_neg (by obtain⟨rfl,ha,hb⟩:=h1;rintro⟨rfl,rfl⟩;omega)]
              ·rw[if_neg h1,if_neg h1]
          | some a =>
            obtain⟨s0,g0,e0⟩:=a
            have aW:=MW Pb hex hux
            cases huy:ey.dP with
            | none =>
              simp only
              by_cases h1:s=d/\st.aQ d<=g/\g-st.aQ d<z.length
              ·rw[if_pos h1,if_pos h1,if_neg (fun h=>S3 (h1.1.symm.trans h.1))]
              ·rw[if_neg h1,if_neg h1];by_cases h2:s=d'/\st.aQ d'<=g/\g-st.aQ d'<z'.length
               ·rw[if_pos h2,if_neg (by obtain⟨rfl,ha,hb⟩:=h2;rintro⟨rfl,rfl⟩;omega),if_pos h2]
               ·rw[if_neg h2,if_neg h2]
            | some b=>exact absurd ⟨by rw[hux];simp,by rw[huy];simp⟩ zO
     ·funext s
      cases R9:ex.new with
      | none=>cases XS:ey.new<;>simp only[lN,R9,XS]
      | some a =>
        obtain⟨d,z⟩:=a
        cases XS:ey.new with
        | none=>simp only[lN,R9,XS]
        | some b =>
          obtain⟨d',z'⟩:=b
          have S3:d≠d':=by
           rintro rfl
           exact hd _ (nx _ _ R9) (ny _ _ XS)
          simp only[lN,R9,XS];rw[if_neg S3,if_neg (Ne.symm S3)];by_cases h1:s=d
          ·subst h1;rw[if_neg S3,if_pos rfl,if_neg S3]
          ·rw[if_neg h1,if_neg h1]
def Kg (st st':St) (x:AV):Prop:=∀s g,keyOf x=some (some (s,g))->st'.heap s g=st.heap s g
theorem p7 {x:AV} (h:Kg st st' x):rG st' x=rG st x:=by
 cases x<;>simp only[rG]
 rw[h _ _ rfl]
theorem xM {x:AV} (h:Kg st st' x):aV st' x=aV st x:=by
 cases x
 case own=>simp only[aV,h _ _ rfl]
 case vw=>simp only[aV,h _ _ rfl]
 case v y =>
  cases y
  case slice p n c=>cases p<;>cases n<;>cases c<;>rfl
  all_goals rfl
 all_goals rfl
theorem CW {T:Nat} {x i:AV} (h:Kg st st' x):bI P st' T x i=bI P st T x i:=by
 unfold bI;cases x<;>try rfl
 simp only[h _ _ rfl]
theorem p8 {T:Nat} {x y:AV} (h:Kg st st' x):qQ P st' T x y=qQ P st T x y:=by
 unfold qQ;cases x<;>try rfl
 simp only[h _ _ rfl]
theorem p9 {T:Nat} {x:AV} {lo hi:Option Operand} (hx:Kg st st' x) (hl:∀p,lo=some p->st'.ev p=st.ev p) (Ei:∀p,hi=some p->st'.ev p=st.ev p):cZ P st' T x lo hi=cZ P st T x lo hi :=
 CS (fun s g h=>by
  rcases h with ⟨o,rfl⟩|rfl|⟨o,n,rfl⟩<;>exact hx _ _ rfl) hl Ei
theorem TX {T:Nat} {s x:AV} (hs:Kg st st' s) (hx:Kg st st' x):dJ P st' T s x=dJ P st T s x:=by
 unfold dJ;rw[xM hx];cases s
 case own=>simp only[hs _ _ rfl]
 case v y =>
  cases y
  case slice p n c=>cases p<;>cases n<;>cases c<;>rfl
  all_goals rfl
 all_goals rfl
theorem TY {T:Nat} {s x:AV} (hs:Kg st st' s) (hx:Kg st st' x):oP P st' T s x=oP P st T s x:=by
 unfold oP;rw[xM hx];cases dX P T with
 | none=>rfl
 | some t=>cases aV st x with
   | none=>rfl
   | some mn =>
     cases s<;>try rfl
     case vw s g o n =>
      cases o with
      | zero=>simp only[hs _ _ rfl]
      | succ o=>rfl
theorem r7 {r:AV} {dst:Option Nat} (hc:∀d,dst=some d->st'.aQ d=st.aQ d):iZ r st' dst=iZ r st dst:=by
 unfold iZ;cases dst with
 | none=>rfl
 | some d=>simp only[hc d rfl]
theorem r9 {g:Nat} {x:AV} {args:List AV} {dst:Option Nat} (hx:Kg st st' x) (hc:∀d,dst=some d->st'.aQ d=st.aQ d):lP call g (x :: args) st' dst=lP call g (x :: args) st dst:=by
 unfold lP;split
 ·rename_i s k rest heq;simp only[List.cons.injEq] at heq;obtain⟨rfl,rfl⟩:=heq
  rw[hx _ _ rfl];cases dst with
  | none=>rfl
  | some d=>simp only[hc d rfl]
 ·split
  ·rename_i hf;unfold bH;rw[if_pos hf,if_pos hf];have h2:∀r,iZ r st' dst=iZ r st dst:=fun r=>r7 hc
   simp only[h2]
  ·rfl
theorem GH {o:Oper} {aS:List Nat} (h:gY o=some aS):o.guard=none:=by
 unfold gY at h;split at h
 ·cases h
 ·assumption
theorem MX {o:Oper} {aS:List Nat} (ha:gY o=some aS):sM P call ops o st=dU P call o st:=by
 unfold sM;rw[GH ha];rfl
inductive Xm:Op->List Nat->Prop
 | load (T a:Nat):Xm (.load T (.tmp a)) [a]
 | store (T a:Nat) (x:Operand):Xm (.store T (.tmp a) x) [a]
 | indexAddr (T a:Nat) (x:Operand):Xm (.indexAddr T (.tmp a) x) [a]
 | slice (T a:Nat) (lo hi mx:Option Operand):Xm (.slice T (.tmp a) lo hi mx) [a]
 | len (a:Nat) (args:Array Operand) (uF:Array Nat) (h:args.toList=[.tmp a]):Xm (.call ⟨.builtin .len,args,uF⟩) [a]
 | append (a b:Nat) (args:Array Operand) (uF:Array Nat) (h:args.toList=[.tmp a,.tmp b]):Xm (.call ⟨.builtin .append,args,uF⟩) [a,b]
 | mv (g a:Nat) (r:List Operand) (args:Array Operand) (uF:Array Nat) (h:args.toList=.tmp a :: r) (hg:Ext.mv g=true):Xm (.call ⟨.value (.func g),args,uF⟩) [a]
theorem Sl {o:Oper} {aS:List Nat} (h:gY o=some aS):Xm o.op aS:=by
 unfold gY at h;split at h
 ·cases h
 ·split at h
  ·rename_i T a ho;simp only[aAk] at h;subst h;rw[ho];exact .load T a
  ·rename_i T a x ho;simp only[aAk] at h;subst h;rw[ho];exact .store T a x
  ·rename_i T a x ho;simp only[aAk] at h;subst h;rw[ho];exact .indexAddr T a x
  ·rename_i T a lo hi mx ho;simp only[aAk] at h;subst h;rw[ho];exact .slice T a lo hi mx
  ·rename_i args uF ho;split at h
   ·rename_i a hl;simp only[aAk] at h;subst h;rw[ho];exact .len a args uF hl
   ·cases h
  ·rename_i args uF ho;split at h
   ·rename_i a b hl;simp only[aAk] at h;subst h;rw[ho];exact .append a b args uF hl
   ·cases h
  ·rename_i g args uF ho;split at h
   ·rename_i a r hl;split at h
    ·rename_i hg;simp only[aAk] at h;subst h;rw[ho];exact .mv g a r args uF hl hg
    ·cases h
   ·cases h
  ·cases h
theorem S4 {T s g:Nat} {p x:AV} {e':oA} (hs:qQ P st T p x=some (s,g,e')):∃o,p=.ptr s g o:=by
 unfold qQ at hs;split at hs
 ·rename_i s1 g1 o1;split at hs
  ·split at hs
   ·split at hs
    ·split at hs
     ·simp only[aAk,Prod.mk.injEq] at hs;obtain⟨rfl,rfl,_⟩:=hs;exact⟨_,rfl⟩
     ·cases hs
    ·split at hs
     ·simp only[aAk,Prod.mk.injEq] at hs;obtain⟨rfl,rfl,_⟩:=hs;exact⟨_,rfl⟩
     ·cases hs
    ·cases hs
   ·cases hs
  ·cases hs
 ·cases hs
theorem u7 {T s g:Nat} {p x:AV} {r:oA} (oE:dJ P st T p x=some (some (s,g),r)):p=.own s g:=by
 unfold dJ at oE;split at oE
 ·split at oE
  ·split at oE
   ·split at oE
    ·split at oE<;>simp at oE
    ·rename_i s3 g3;split at oE
     ·split at oE
      ·simp only[aAk,Prod.mk.injEq] at oE;obtain⟨⟨rfl,rfl⟩,_⟩:=oE
       rfl
      ·cases oE
     ·cases oE
    ·split at oE<;>simp at oE
    ·cases oE
   ·cases oE
  ·cases oE
 ·cases oE
theorem Vm {o:Oper} {aS:List Nat} {e:qZ} (ha:gY o=some aS) (h:sM P call ops o st=some e) :
 ∀s g z,e.dP=some (s,g,z)->∃a∈aS,keyOf (st.env a)=some (some (s,g)):=by
 rw[MX ha] at h;have hk:=Sl ha
 clear ha
 obtain⟨dst,op,type,pos,after,guard⟩:=o
 have val:∀(v:Option AV),(v.map fun x=>({ dst:=dst,val:=x }:qZ))=some e->e.dP=none:=fun v hv=>by
  cases v with
  | none=>cases hv
  | some v=>simp only[aAo,aAk] at hv;subst hv;rfl
 intro s g z hu;cases hk
 case load T a=>simp only[dU] at h;rw[val _ h] at hu;cases hu
 case indexAddr T a x=>simp only[dU] at h;rw[val _ h] at hu;cases hu
 case slice T a lo hi mx=>simp only[dU] at h;rw[val _ h] at hu;cases hu
 case len a args uF hl =>
  simp only[dU,iT,hl] at h;split at h
  ·split at h
   ·simp only[aAk] at h;subst h;cases hu
   ·cases h
  ·cases h
 case store T a x =>
  simp only[dU] at h;cases hs:qQ P st T (st.ev (.tmp a)) (st.ev x) with
  | none=>simp[hs] at h
  | some u =>
    obtain⟨s',g',e'⟩:=u
    simp only[hs,aAo,aAk] at h;subst h;simp only[aAk,Prod.mk.injEq] at hu;obtain⟨rfl,rfl,_⟩:=hu
    obtain⟨o1,ho1⟩:=S4 hs
    exact⟨a,by simp,by rw[show st.env a=st.ev (.tmp a) from rfl,ho1];rfl⟩
 case append a b args uF hl =>
  simp only[dU,iT,hl] at h;cases dst with
  | none=>simp[cT] at h
  | some d =>
    simp only[cT] at h;split at h
    ·rename_i s0 x0 T T' heq _
     simp only[List.cons.injEq,and_true] at heq;obtain⟨rfl,rfl⟩:=heq
     split at h
     ·split at h
      ·cases oE:oP P st T (st.ev (.tmp a)) (st.ev (.tmp b)) with
       | none=>simp[oE] at h
       | some u =>
       simp only[oE,aAo,aAk] at h;subst h;simp only[aAk,Prod.mk.injEq] at hu;obtain⟨rfl,rfl,rfl⟩:=hu
       obtain⟨n0,vR⟩:=CV oE
       exact⟨a,by simp,by rw[show st.env a=st.ev (.tmp a) from rfl,vR];rfl⟩
      split at h
      ·simp only[aAk] at h;subst h;cases hu
      cases oE:dJ P st T (st.ev (.tmp a)) (st.ev (.tmp b)) with
      | none=>simp[oE] at h
      | some ur =>
        obtain⟨u,r⟩:=ur
        simp only[oE,aAk] at h;subst h;cases u with
        | none=>cases hu
        | some p =>
          simp only[aAo,aAk,Prod.mk.injEq] at hu;obtain⟨rfl,rfl,_⟩:=hu
          exact⟨a,by simp,by rw[show st.env a=st.ev (.tmp a) from rfl,u7 oE];rfl⟩
     ·cases h
    ·cases h
 case mv g' a r args uF hl hg =>
  simp only[dU,iT,oQ] at h;rw[if_pos hg] at h;obtain⟨_,_,h3⟩:=Sk h
  have:=h3 s g z hu
  rw[hl] at this;simp only[map_cons,head?_cons,aAk,St.ev] at this;exact⟨a,by simp,by rw[this];rfl⟩
theorem mem_congr {o:Oper} {aS:List Nat} (ha:gY o=some aS) (Ow:∀p∈o.op.operands,st'.ev p=st.ev p) (hh:∀a∈aS,Kg st st' (st.env a)) (hc:∀d,o.dst=some d->st'.aQ d=st.aQ d) :
 sM P call ops o st'=sM P call ops o st:=by
 rw[MX ha,MX ha];have hk:=Sl ha
 clear ha
 obtain⟨dst,op,type,pos,after,guard⟩:=o
 simp only at hk Ow hc
 cases hk
 case load T a =>
  have h1:st'.env a=st.env a:=Ow (.tmp a) (by simp[Op.operands])
  simp only[dU,iY,St.ev,h1,p7 (hh a (by simp))]
 case store T a x =>
  have h1:st'.env a=st.env a:=Ow (.tmp a) (by simp[Op.operands])
  have h2:=Ow x (by simp[Op.operands])
  have h3:st'.ev (.tmp a)=st.ev (.tmp a):=h1
  simp only[dU,h2,h3];rw[show st.ev (.tmp a)=st.env a from rfl,p8 (hh a (by simp))]
 case indexAddr T a x =>
  have h1:st'.env a=st.env a:=Ow (.tmp a) (by simp[Op.operands])
  have h2:=Ow x (by simp[Op.operands])
  have h3:st'.ev (.tmp a)=st.ev (.tmp a):=h1
  simp only[dU,iY,h2,h3];rw[show st.ev (.tmp a)=st.env a from rfl,CW (hh a (by simp))]
 case slice T a lo hi mx =>
  have h1:st'.env a=st.env a:=Ow (.tmp a) (by simp[Op.operands])
  have h3:st'.ev (.tmp a)=st.ev (.tmp a):=h1
  have hl:∀p,lo=some p->st'.ev p=st.ev p:=fun p hp=>Ow p (by subst hp;simp[Op.operands])
  have Ei:∀p,hi=some p->st'.ev p=st.ev p:=fun p hp=>Ow p (by subst hp;simp[Op.operands])
  have hm:∀p,mx=some p->st'.ev p=st.ev p:=fun p hp=>Ow p (by subst hp;simp[Op.operands])
  have hS:=p9 (P:=P) (T:=T) (hh a (by simp)) hl Ei
  cases mx with
  | none =>
    simp only[dU,iY,h3];rw[show st.ev (.tmp a)=st.env a from rfl,hS]
  | some m =>
    cases hi with
    | none=>rfl
    | some h =>
      simp only[dU,iY,h3];rw[Xk (fun s g hx=>hh a (by simp) s g (by rw[show st.env a=st.ev (.tmp a) from rfl,hx];rfl)) hl (Ei h rfl) (hm m rfl)]
 case len a args uF hl =>
  have h1:st'.env a=st.env a:=Ow (.tmp a) (by simp[Op.operands,Call.operands,<- Array.mem_toList_iff,hl])
  have h3:st'.ev (.tmp a)=st.ev (.tmp a):=h1
  have hv:aV st' (st'.ev (.tmp a))=aV st (st.ev (.tmp a)):=by rw[h3];exact xM (hh a (by simp))
  simp only[dU,iT,hl];cases uF.toList with
  | nil=>rfl
  | cons T r=>cases r with
    | nil=>simp only[hv]
    | cons _ _=>rfl
 case append a b args uF hl =>
  have h1:st'.ev (.tmp a)=st.ev (.tmp a):=Ow (.tmp a) (by simp[Op.operands,Call.operands,<- Array.mem_toList_iff,hl])
  have h2:st'.ev (.tmp b)=st.ev (.tmp b):=Ow (.tmp b) (by simp[Op.operands,Call.operands,<- Array.mem_toList_iff,hl])
  have hV:∀T,oP P st' T (st.ev (.tmp a)) (st.ev (.tmp b))=oP P st T (st.ev (.tmp a)) (st.ev (.tmp b)):=fun T=>TY (hh a (by simp)) (hh b (by simp))
  have hA:∀T,dJ P st' T (st.ev (.tmp a)) (st.ev (.tmp b))=dJ P st T (st.ev (.tmp a)) (st.ev (.tmp b)):=fun T=>TX (hh a (by simp)) (hh b (by simp))
  simp only[dU,iT,hl];cases dst with
  | none=>rfl
  | some d =>
    simp only[cT,hc d rfl];cases uF.toList with
    | nil=>rfl
    | cons T r=>cases r with
      | nil=>rfl
      | cons T' r'=>cases r' with
        | nil =>
          have hn:Iy P st' T (st'.ev (.tmp a)) (st'.ev (.tmp b))=Iy P st T (st.ev (.tmp a)) (st.ev (.tmp b)):=by
           have h3:aV st' (st.ev (.tmp b))=aV st (st.ev (.tmp b)):=xM (hh b (by simp))
           simp only[Iy,h1,h2,h3]
          simp only[];rw[hn,h1,h2,hA,hV]
        | cons _ _=>rfl
 case mv g' a r args uF hl hg =>
  have he:∀p∈args.toList,st'.ev p=st.ev p:=fun p hp=>Ow p (by simp[Op.operands,Call.operands,<- Array.mem_toList_iff,hp])
  have h1:args.toList.map st'.ev=args.toList.map st.ev:=map_congr_left he
  simp only[dU,iT,oQ];rw[if_pos hg,if_pos hg,h1,hl];simp only[map_cons];exact r9 (hh a (by simp)) hc
theorem aB4 {x y:AV} (h:fL x y\/fL y x) {k k':Nat × Nat} (hx:keyOf x=some (some k)) (hy:keyOf y=some (some k')):k≠k':=by
 unfold fL at h;rw[hx,hy] at h;rcases h with h|h
 ·exact h
 ·exact fun e=>h e.symm
theorem aB5 {aQ:Nat->Nat} {x:AV} {s g:Nat} (h:mI aQ x) (hk:keyOf x=some (some (s,g))):g<aQ s:=by
 cases x<;>simp only[keyOf,aAk,Prod.mk.injEq,reduceCtorEq] at hk
 ·obtain⟨rfl,rfl⟩:=hk;exact h.ptr
 ·obtain⟨rfl,rfl⟩:=hk;exact h.own
 ·obtain⟨rfl,rfl⟩:=hk;exact h.vw
theorem KD {x y:Oper} {aS bs:List Nat} {ex:qZ} (Pb:∀t,mI st.aQ (st.env t)) (hax:gY x=some aS) (hay:gY y=some bs) (J5:∀d,x.dst=some d->d ∉ y.looksAt ops) (lI:∀d,x.dst=some d->y.dst≠some d)
 (hf:∀a∈aS,∀b∈bs,fL (st.env a) (st.env b)\/fL (st.env b) (st.env a)) (hx:sM P call ops x st=some ex):sM P call ops y (ex.apply st)=sM P call ops y st:=by
 obtain⟨sd,sn,_⟩:=pQ hx
 have su:=Vm hax hx
 refine mem_congr hay (fun p hp=>?_) (fun b hb s g hk=>?_) fun d hd=>?_
 ·cases p with
  | tmp t =>
    show (ex.apply st).env t=st.env t
    rw[pF,if_neg];intro h;rw[sd] at h;exact J5 t h (by unfold Oper.looksAt;exact mem_append_left _ (mem_filterMap.2 ⟨.tmp t,by simpa using hp,rfl⟩))
  | _=>rfl
 ·have aW:=aB5 (Pb b) hk
  have hupd:(match ex.dP with|some (s0,g0,y)=>if s=s0/\g=g0 then y else st.heap s g|none=>st.heap s g)=st.heap s g:=by
   cases hu:ex.dP with
   | none=>rfl
   | some u =>
     obtain⟨s0,g0,z⟩:=u
     obtain⟨a,ha,hka⟩:=su s0 g0 z hu
     simp only
     rw[if_neg];rintro⟨rfl,rfl⟩
     exact aB4 (hf a ha b hb) hka hk rfl
  rw[tQ];split
  ·rename_i d es hn;rw[if_neg (by rintro⟨rfl,h,_⟩;omega)]
   exact hupd
  ·exact hupd
 ·rw[lN];split
  ·rename_i d' z hn
   rw[if_neg];rintro rfl
   exact lI _ (sn _ _ hn) hd
  ·rfl
theorem aB6 {α:Type} {A B C D:Prop} [Decidable A] [Decidable B] [Decidable C] [Decidable D] {na nb uc ud h:α} (h1:A->¬B) (h2:A->¬D) (h3:C->¬B) (h4:C->¬D) :
 (if B then nb else if D then ud else if A then na else if C then uc else h)=(if A then na else if C then uc else if B then nb else if D then ud else h):=by
 by_cases a:A
 ·rw[if_neg (h1 a),if_neg (h2 a),if_pos a,if_pos a]
 ·rw[if_neg a,if_neg a];by_cases c:C
  ·rw[if_neg (h3 c),if_neg (h4 c),if_pos c,if_pos c]
  ·rw[if_neg c,if_neg c]
def Vn (e:qZ) (aQ:Nat->Nat) (s g:Nat):Prop:=∃d es,e.new=some (d,es)/\s=d/\aQ d<=g/\g-aQ d<es.length
def u9 (e:qZ) (s g:Nat):Prop:=∃z,e.dP=some (s,g,z)
def Kh (e:qZ) (aQ:Nat->Nat) (g:Nat):Option oA:=match e.new with|some (d,es)=>es[g-aQ d]? | none=>none
def v7 (e:qZ):Option oA:=match e.dP with|some (_,_,z)=>z|none=>none
theorem Da (e:qZ) (st:St) (s g:Nat):(e.apply st).heap s g=if Vn e st.aQ s g then Kh e st.aQ g else if u9 e s g then v7 e else st.heap s g:=by
 have hu:(match e.dP with|some (s0,g0,y)=>if s=s0/\g=g0 then y else st.heap s g|none=>st.heap s g)=if u9 e s g then v7 e else st.heap s g:=by
  unfold u9 v7;cases hu:e.dP with
  | none=>simp
  | some u =>
    obtain⟨s0,g0,z⟩:=u
    simp only
    by_cases h:s=s0/\g=g0
    ·obtain⟨rfl,rfl⟩:=h
     rw[if_pos ⟨rfl,rfl⟩,if_pos ⟨z,rfl⟩]
    ·rw[if_neg h,if_neg];rintro⟨z',h'⟩
     simp only[aAk,Prod.mk.injEq] at h'
     exact h ⟨h'.1.symm,h'.2.1.symm⟩
 rw[tQ];unfold Vn Kh;cases hn:e.new with
 | none=>simp only;rw[if_neg (by rintro⟨d,es,h,_⟩;cases h)];exact hu
 | some p =>
   obtain⟨d,es⟩:=p
   simp only
   by_cases h:s=d/\st.aQ d<=g/\g-st.aQ d<es.length
   ·rw[if_pos h,if_pos ⟨d,es,rfl,h⟩]
   ·rw[if_neg h,if_neg]
    ·exact hu
    ·rintro⟨d',es',h',h2⟩
     simp only[aAk,Prod.mk.injEq] at h'
     obtain⟨rfl,rfl⟩:=h'
     exact h h2
theorem aB7 {x y:Oper} {aS bs:List Nat} (Pb:∀t,mI st.aQ (st.env t)) (hax:gY x=some aS) (hay:gY y=some bs) (oE:Oper.apart ops x y=true) (hf:Of st aS bs) {s1 s2:St} (hx:cI P call ops x st=some s1) (hy:cI P call ops y s1=some s2) :
 ∃s3,cI P call ops y st=some s3/\cI P call ops x s3=some s2:=by
 obtain⟨l1,l2,l3⟩:=Oper.apart_spec oE
 have l2':∀d,y.dst=some d->x.dst≠some d:=fun d hd hx=>l2 d hx hd
 rw[Hm] at hx hy;cases hex:sM P call ops x st with
 | none=>simp[hex] at hx
 | some ex =>
   simp only[hex,aAo,aAk] at hx;subst hx;rw[KD Pb hax hay l1 l2 (fun a ha b hb=>.inl (hf a ha b hb)) hex] at hy
   cases J6:sM P call ops y st with
   | none=>simp[J6] at hy
   | some ey =>
     simp only[J6,aAo,aAk] at hy;subst hy;refine⟨ey.apply st,by rw[Hm,J6];rfl, ?_⟩
     rw[Hm,KD Pb hay hax l3 l2' (fun b hb a ha=>.inr (hf a ha b hb)) J6,hex]
     simp only[aAo,aAk];obtain⟨dx,nx,_⟩:=pQ hex
     obtain⟨dy,ny,_⟩:=pQ J6
     have ux:=Vm hax hex
     have uy:=Vm hay J6
     have cx:∀d z,ey.new=some (d,z)->(ex.apply st).aQ d=st.aQ d:=fun d z hn=>by
      rw[lN];split
      ·rename_i d' z' Hu
       rw[if_neg];rintro rfl
       exact l2 _ (nx _ _ Hu) (ny _ _ hn)
      ·rfl
     have cy:∀d z,ex.new=some (d,z)->(ey.apply st).aQ d=st.aQ d:=fun d z hn=>by
      rw[lN];split
      ·rename_i d' z' Hu
       rw[if_neg];rintro rfl
       exact l2 _ (nx _ _ hn) (ny _ _ Hu)
      ·rfl
     apply aB2
     ·funext t
      rw[pF,pF,pF,pF,dx,dy];by_cases h1:x.dst=some t
      ·rw[if_pos h1,if_pos h1,if_neg (l2 t h1)]
      ·rw[if_neg h1,if_neg h1]
     ·funext s g
      have nyE:Vn ey (ex.apply st).aQ s g↔Vn ey st.aQ s g:=by
       constructor
       ·rintro⟨d,es,h,h2⟩;rw[cx d es h] at h2;exact⟨d,es,h,h2⟩
       ·rintro⟨d,es,h,h2⟩;rw[<- cx d es h] at h2;exact⟨d,es,h,h2⟩
      have nxE:Vn ex (ey.apply st).aQ s g↔Vn ex st.aQ s g:=by
       constructor
       ·rintro⟨d,es,h,h2⟩;rw[cy d es h] at h2;exact⟨d,es,h,h2⟩
       ·rintro⟨d,es,h,h2⟩;rw[<- cy d es h] at h2;exact⟨d,es,h,h2⟩
      have vyE:Kh ey (ex.apply st).aQ g=Kh ey st.aQ g:=by
       unfold Kh;cases hn:ey.new with
       | none=>rfl
       | some p=>simp only[cx p.1 p.2 hn]
      have vxE:Kh ex (ey.apply st).aQ g=Kh ex st.aQ g:=by
       unfold Kh;cases hn:ex.new with
       | none=>rfl
       | some p=>simp only[cy p.1 p.2 hn]
      rw[Da,Da,Da,Da];simp only[nyE,nxE,vyE,vxE];symm
      have idk:∀a s g,keyOf (st.env a)=some (some (s,g))->g<st.aQ s:=fun a s g h=>aB5 (Pb a) h
      refine aB6 ?_ ?_ ?_ ?_
      ·rintro⟨d,es,h,rfl,_⟩ ⟨d',es',h',rfl,_⟩
       exact l2 _ (nx _ _ h) (ny _ _ h')
      ·rintro⟨d,es,h,rfl,h1,_⟩ ⟨z,h'⟩
       obtain⟨b,_,hb⟩:=uy _ _ _ h'
       have:=idk b _ _ hb
       omega
      ·rintro⟨z,h⟩ ⟨d,es,h',rfl,h1,_⟩
       obtain⟨a,_,ha⟩:=ux _ _ _ h
       have:=idk a _ _ ha
       omega
      ·rintro⟨z,h⟩ ⟨z',h'⟩
       obtain⟨a,ha,hka⟩:=ux _ _ _ h
       obtain⟨b,hb,hkb⟩:=uy _ _ _ h'
       exact aB4 (.inl (hf a ha b hb)) hka hkb rfl
     ·funext s
      rw[lN,lN];cases R9:ex.new with
      | none=>cases XS:ey.new<;>simp only[lN,R9,XS]
      | some a =>
        obtain⟨d,z⟩:=a
        cases XS:ey.new with
        | none=>simp only[lN,R9,XS]
        | some b =>
          obtain⟨d',z'⟩:=b
          have S3:d≠d':=by
           rintro rfl
           exact l2 _ (nx _ _ R9) (ny _ _ XS)
          simp only[lN,R9,XS];rw[if_neg S3,if_neg (Ne.symm S3)];by_cases h1:s=d
          ·subst h1;rw[if_neg S3,if_pos rfl,if_neg S3]
          ·rw[if_neg h1,if_neg h1]
end
end Go.Ab
end
