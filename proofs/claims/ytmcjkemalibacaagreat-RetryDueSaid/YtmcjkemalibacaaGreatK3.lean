/-
  Part 3 of the proof: an evaluator of programs, its soundness, and what functions of this program compute.
-/
import Derived.Test.YtmcjkemalibacaaGreatK2
import Derived.Deep.Upon
set_option linter.all false
set_option maxRecDepth 20000
set_option maxHeartbeats 40000000
section
namespace Go.Ab
open Classical
section
variable {P:Program} {h0:Nat→Obj→Prop} {w0:World} {F:Gp} {nt:Nat} {ρ:Nat→Nat→Value} {st:St} {a:Act} {w:World} {K:Act→World→Prop} {Q:Exit→Act→World→Prop}
theorem Fa {base T ty e:Nat} {ei:TypeInfo} {ez:Value} (hT:P.underlying T=some (.slice e)) (Bu:P.info? e=some ei) (BL:ei.zero=some ez) (BE:ez.cells.size=ei.size) (Ec:0<ei.size)
 (xA:base≤w.heap.size) {v:Value} {n:Nat} {xs:List Value} (zW:oC w base e ei.size v n xs)
 {p:Option Addr} {m c:Nat} {news:List Value} (hl:news.length=m * ei.size) (aAz:news≠[]→∃ad,p=some ad∧∀(j:Nat) (u:Value),news[j]? = some u→w.cell? (ad.add j)=some u)
 (h1:∀u∈news,u.oneCell'=true) (h63:n+m≤maxLen) (hb:(n+m) * ei.bytes≤140737488355328) :
 ∃v' w',(Builtin.append_ #[T,T] ty #[v,.slice p m c]).run P w=.ok v' w'∧oC w' base e ei.size v' (n+m) (xs++news)∧w.grownBy w' (dF v)∧(∀b,dF v'=some b→dF v=some b∨w.heap.size≤b):=by
 by_cases hm:m=0
 ·subst hm;have hn:news=[]:=List.eq_nil_of_length_eq_zero (by simpa using hl)
  subst hn;refine⟨v,w, ?_,by simpa using zW,⟨rfl,rfl,rfl,Nat.le_refl _,fun _ _ _=>rfl⟩,fun b hb=>.inl hb⟩
  have hfc:∀(x:Value),(∃p,x=.slice p 0 c)→(Builtin.firstCells ei.size 0 x).run P w=.ok #[] w:=by
   rintro x ⟨p,rfl⟩
   cases p<;>simp[Builtin.firstCells,loadCells,loadCellsFrom]
  rcases zW.2 with ⟨q,rfl,rfl⟩|⟨g,cap,cur,rfl,_,_,Uf,_⟩
  ·cases q<;>simp[Builtin.append_,aW hT,run_sizeOf w Bu,Builtin.lenOf,hfc _ ⟨p,rfl⟩,storeCells]
  ·simp[Builtin.append_,aW hT,run_sizeOf w Bu,Builtin.lenOf,hfc _ ⟨p,rfl⟩,Uf,storeCells]
 ·have gT:news≠[]:=by
   intro h;subst h;have:0<m * ei.size:=Nat.mul_pos (by omega) Ec
   simp at hl
   omega
  obtain⟨ad,rfl,Ys⟩:=aAz gT
  have hlen:(xs++news).length=(n+m) * ei.size:=by rw[List.length_append,zW.1,hl,Nat.add_mul]
  have grow:∀(ga:Addr) (cap:Nat),cap<n+m→(∀(j:Nat) (u:Value),xs[j]? = some u→w.cell? (ga.add j)=some u)→∃v' w',(Builtin.append_ #[T,T] ty #[.slice (some ga) n cap,.slice (some ad) m c]).run P w=.ok v' w' ∧
   oC w' base e ei.size v' (n+m) (xs++news)∧w.grownBy w' none∧∀b,dF v'=some b→w.heap.size≤b:=by
   intro ga cap o6 holds;have hr:=run_append_grow (P:=P) w T ty e ei ez hT Bu BL ga n cap xs zW.1 holds ad m c news hl Ys (by omega) (by simp only[maxLen] at h63;omega) (growslice_fits (by omega) hb)
   have hge:=grownCap_ge w (n+m) cap e
   have aHZ:=grownCap_le_maxLen w (n+m) cap e h63
   refine⟨_,_,hr,⟨hlen,.inr ⟨w.heap.size,_,_,rfl,xA,heap_alloc_new w.drew _,hge,aHZ, ?_, ?_,by omega⟩⟩,⟨rfl,rfl,rfl,by simp,fun k hk _=>heap_alloc_old w.drew _ hk⟩,fun b hb=>?_⟩
   ·simp only[Array.size_append,List.size_toArray,size_zeroCells,BE,zW.1,hl,← Nat.add_mul];congr 1
    omega
   ·simp only[Array.toList_append,List.append_assoc];rw[← List.append_assoc,← hlen];exact List.take_left
   ·rw[kK (by omega)] at hb
    simp at hb
    omega
  rcases zW.2 with ⟨q,rfl,rfl⟩|⟨g,cap,cur,rfl,hbg,hg,Uf,F7,HX,htake,qS⟩
  ·have hx:xs=[]:=List.eq_nil_of_length_eq_zero (by simpa using zW.1)
   cases q with
   | none =>
     subst hx;obtain⟨v',w',hr,ho,hgr,_⟩:=run_append_own (P:=P) w w.heap.size T ty e ei ez ei.size ei.bytes hT Bu BL rfl rfl BE Ec (.slice none 0 0) 0 [] (World.ownsRow_nil w _ e ei.size)
      ad m c news hl Ys h1 (by simpa using h63) (by simpa using hb) (Nat.le_refl _)
     exact⟨v',w',hr,zB (Gn ho) xA,hgr,fun b hb=>.inr ((Cl (Gn ho) b hb).1)⟩
   | some ga =>
     obtain⟨v',w',hr,ho,hgr,nX⟩:=grow ga 0 (by omega) (by rw[hx];simp)
     exact⟨v',w',hr,ho,by rw[pV];exact hgr,fun b hb=>.inr (nX b hb)⟩
  ·by_cases o6:n+m≤cap
   ·have aDQ:n * ei.size+news.length≤cur.size:=by rw[hl,HX,← Nat.add_mul];exact Nat.mul_le_mul_right _ o6
    have hr:=run_append_room (P:=P) w T ty e ei hT Bu g n cap cur hg ad m c news hl Ys h1 o6 aDQ
    refine⟨_,_,hr,⟨hlen,.inr ⟨g,cap,_,rfl,hbg,setRow_heap w g cur _ e _ hg,o6,F7, ?_, ?_,qS⟩⟩,⟨rfl,rfl,rfl,by simp,fun k _ hk=>setRow_other w g k _ (fun e=>hk (by rw[kK qS,e]))⟩,fun b hb=>.inl (by rw[kK qS] at hb ⊢;exact hb)⟩
    ·simp only[List.size_toArray,List.length_append,List.length_take,List.length_drop,Array.length_toList];omega
    ·rw[htake,← hlen];exact List.take_left
   ·have holds:∀(j:Nat) (u:Value),xs[j]? = some u→w.cell? ((⟨g,0,none⟩:Addr).add j)=some u:=fun j u hu=>by
     rw[lU,Nat.zero_add,cell_of_row w g j cur e (0,0) hg];rw[← htake,List.getElem?_take] at hu;split at hu
     ·simpa using hu
     ·cases hu
    obtain⟨v',w',hr,ho,hgr,nX⟩:=grow ⟨g,0,none⟩ cap (by omega) holds
    exact⟨v',w',hr,ho,⟨hgr.os,hgr.tape,hgr.output,hgr.size,fun k hk _=>hgr.block k hk (by simp)⟩,fun b hb=>.inr (nX b hb)⟩
theorem lJ (dst:Option Nat) (v:AV) (d:Nat) (x:jI):mT.apply { dst:=dst,val:=v,new:=some (d,[x])} st=(st.new d x).put dst v:=by
 simp only[mT.apply,Wc]
theorem Rm (dst:Option Nat) (v:AV) (s g d:Nat) (z:Option jI) (x:jI):mT.apply { dst:=dst,val:=v,dM:=some (s,g,z),new:=some (d,[x])} st=((st.iH s g z).new d x).put dst v:=by
 simp only[mT.apply,Wc]
theorem IB (S:kZ F h0 w0 nt ρ st a w) {T ty d:Nat} {s x:AV} {u:Option (Nat × Nat)} {r:jI} {sv xv:Value} (hd:d<nt) (h:dC P st T s x=some (u,r))
 (hs:cV (ctx h0 w0 ρ st w) s sv) (hx:cV (ctx h0 w0 ρ st w) x xv) :
 ∃v w' oA,(Builtin.append_ #[T,T] ty #[sv,xv]).run P w=.ok v w' ∧
  kZ F h0 w0 nt oA (mT.apply { dst:=some d,val:=.own d (st.aO d),dM:=u.map fun p=>(p.1,p.2,none),new:=some (d,[r])} st) (a.put (some d) v) w':=by
 unfold dC at h;cases SZ:dN P T with
 | none=>simp[SZ] at h
 | some t =>
   obtain⟨e,sz,by_⟩:=t
   simp only[SZ] at h;obtain⟨ei,ez,hT,Bu,BL,rfl,BE,rfl,Ec⟩:=kF SZ
   cases hv:aQ st x with
   | none=>simp[hv] at h
   | some mn =>
     obtain⟨m,news⟩:=mn
     simp only[hv] at h;split at h
     ·rename_i hlen;obtain⟨p,c,rfl,aAz⟩:=sY S hv hx
      have aAA:∃nv:List Value,gB (ctx h0 w0 ρ st w) news nv∧(nv≠[]→∃ad,p=some ad∧∀(j:Nat) (u:Value),nv[j]? = some u→w.cell? (ad.add j)=some u):=by
       by_cases gT:news=[]
       ·subst gT;exact⟨[],.nil _,fun h=>absurd rfl h⟩
       ·obtain⟨b,off,arr,T',fr,hp,hb,hc⟩:=aAz gT
        refine⟨_,hc,fun _=>⟨_,hp,fun j u hu=>?_⟩⟩
        rw[lU,cell_of_row w b (off+j) arr T' fr hb];rw[List.getElem?_take] at hu;split at hu
        ·rw[List.getElem?_drop] at hu;simpa using hu
        ·cases hu
      obtain⟨nv,Uf,oS⟩:=aAA
      have SX:nv.length=m * ei.size:=by rw[← Uf.len,hlen]
      have Qe:∀u∈nv,u.oneCell'=true:=fun u hu=>by
       obtain⟨j,hj,rfl⟩:=List.getElem_of_mem hu
       exact Uf.one j _ (by simp)
      split at h
      ·split at h
       ·rename_i hc;simp only[Option.some.injEq,Prod.mk.injEq] at h;obtain⟨rfl,rfl⟩:=h
        have:=iN hs
        subst this;obtain⟨v',w',hr,ho,hg,YU⟩:=Fa (P:=P) (w:=w) (base:=w.heap.size) (ty:=ty) hT Bu BL BE Ec (Nat.le_refl _) (Gn (World.ownsRow_nil w _ e ei.size)) (p:=p) (c:=c) SX oS Qe (by simpa using hc.2) (by simpa using hc.1)
        simp only[Nat.zero_add,List.nil_append] at ho;obtain⟨oA,S'⟩:=S.newRow d hd hg e ei.size m news nv v' ho Uf
        exact⟨v',w',oA,hr,by rw[Option.map_none,lJ];exact S'⟩
       ·cases h
      ·rename_i s' g'
       cases he:st.heap s' g' with
       | none=>simp[he] at h
       | some e' =>
         cases e' with
         | row e2 sz2 n cs =>
           simp only[he] at h;split at h
           ·rename_i hc;obtain⟨rfl,rfl,hb,h63⟩:=hc
            simp only[Option.some.injEq,Prod.mk.injEq] at h;obtain⟨rfl,rfl⟩:=h
            obtain⟨_,_,xs,ho,HX⟩:=S.sX s' g' _ he
            cases hs with
            | own _ _ hg1 ho1 =>
              obtain⟨v',w',hr,ho',hg,YU⟩:=Fa (P:=P) (w:=w) (ty:=ty) hT Bu BL BE Ec S.ext.size ho (p:=p) (c:=c) SX oS Qe h63 hb
              obtain⟨S',k,oZ⟩:=S.O6 he hg d (.row e2 ei.size (n+m) (cs++news)) v' (tP ho') YU (fun C k=>⟨xs++nv,ho',(HX.app Uf).le k⟩)
              have aZ:st.aO d<(ctx h0 w0 (uC ρ d (st.aO d) v') ((st.iH s' g' none).new d (.row e2 ei.size (n+m) (cs++news))) w').aO d:=by simp[ctx,St.new,St.iH]
              have lE:(ctx h0 w0 (uC ρ d (st.aO d) v') ((st.iH s' g' none).new d (.row e2 ei.size (n+m) (cs++news))) w').ρ d (st.aO d)=v':=oZ
              have:=cV.own (C:=ctx h0 w0 (uC ρ d (st.aO d) v') ((st.iH s' g' none).new d (.row e2 ei.size (n+m) (cs++news))) w') d (st.aO d) aZ (by rw[lE];exact tP ho')
              rw[lE] at this;have hS:=S'.put (some d) (fun t ht=>by cases ht;exact hd) this
              exact⟨v',w',_,hr,by rw[Option.map_some,Rm];exact hS⟩
           ·cases h
         | _=>simp[he] at h
      ·rename_i n cs;split at h
       ·rename_i hc;obtain⟨c1,c2,c3,c4⟩:=hc
        simp only[Option.some.injEq,Prod.mk.injEq] at h;obtain⟨rfl,rfl⟩:=h
        have main:∀(q:Option Addr) (ys:List Value),sv=.slice q n n→gB (ctx h0 w0 ρ st w) cs ys→(ys≠[]→∃ad,q=some ad∧∀(j:Nat) (u:Value),ys[j]? = some u→w.cell? (ad.add j)=some u) →
         ∃v' w',(Builtin.append_ #[T,T] ty #[sv,.slice p m c]).run P w=.ok v' w'∧oC w' w.heap.size e ei.size v' (n+m) (ys++nv)∧w.grownBy w' none:=by
         rintro q ys rfl Ug hcell'
         have hyl:ys.length=n * ei.size:=by rw[← Ug.len,c1]
         by_cases hm:m=0
         ·have hn0:n=0:=by omega
          subst hm;subst hn0;have hy0:ys=[]:=List.eq_nil_of_length_eq_zero (by simpa using hyl)
          have hn0:nv=[]:=List.eq_nil_of_length_eq_zero (by simpa using SX)
          subst hy0;subst hn0;obtain⟨v',w',hr,ho,hg,_⟩:=Fa (P:=P) (w:=w) (base:=w.heap.size) (ty:=ty) (v:=.slice q 0 0) (n:=0) (xs:=[]) hT Bu BL BE Ec (Nat.le_refl _) ⟨by simp,.inl ⟨q,rfl,rfl⟩⟩ (p:=p) (c:=c) SX oS (by simp) c4 c3
          rw[pV] at hg;exact⟨v',w',hr,ho,hg⟩
         ·have gT:nv≠[]:=by
           intro h;rw[h] at SX;have:0<m * ei.size:=Nat.mul_pos (by omega) Ec
           simp at SX
           omega
          obtain⟨ad,rfl,Ys⟩:=oS gT
          have hlen':(ys++nv).length=(n+m) * ei.size:=by rw[List.length_append,hyl,SX,Nat.add_mul]
          cases q with
          | none =>
            have hy0:ys=[]:=by
             by_cases h:ys=[]
             ·exact h
             ·obtain⟨ad,h1,_⟩:=hcell' h
              cases h1
            subst hy0;have hn0:n=0:=by
             rcases Nat.eq_zero_or_pos n with h|h
             ·exact h
             ·have:=Nat.mul_pos h Ec
              simp at hyl
              omega
            subst hn0;obtain⟨v',w',hr,ho,hg,_⟩:=Fa (P:=P) (w:=w) (base:=w.heap.size) (ty:=ty) (v:=.slice none 0 0) (n:=0) (xs:=[]) hT Bu BL BE Ec (Nat.le_refl _) ⟨by simp,.inl ⟨none,rfl,rfl⟩⟩ (p:=some ad) (c:=c) SX oS Qe c4 c3
            rw[pV] at hg;exact⟨v',w',hr,ho,hg⟩
          | some ga =>
            have holds:∀(j:Nat) (u:Value),ys[j]? = some u→w.cell? (ga.add j)=some u:=fun j u hu=>by
             have hne':ys≠[]:=by intro h;rw[h] at hu;simp at hu
             obtain⟨ad',h1,h2⟩:=hcell' hne'
             cases h1
             exact h2 j u hu
            have hr:=run_append_grow (P:=P) w T ty e ei ez hT Bu BL ga n n ys hyl holds ad m c nv SX Ys (by omega) (by simp only[maxLen] at c4;omega) (growslice_fits (by omega) c3)
            have hge:=grownCap_ge w (n+m) n e
            have aHZ:=grownCap_le_maxLen w (n+m) n e c4
            refine⟨_,_,hr,⟨hlen',.inr ⟨w.heap.size,_,_,rfl,Nat.le_refl _,heap_alloc_new w.drew _,hge,aHZ, ?_, ?_,by omega⟩⟩,⟨rfl,rfl,rfl,by simp,fun k hk _=>heap_alloc_old w.drew _ hk⟩⟩
            ·simp only[Array.size_append,List.size_toArray,size_zeroCells,BE,hyl,SX,← Nat.add_mul];congr 1
             omega
            ·simp only[Array.toList_append,List.append_assoc];rw[← List.append_assoc,← hlen'];exact List.take_left
        have fin:∀(ys:List Value),gB (ctx h0 w0 ρ st w) cs ys→(∃v' w',(Builtin.append_ #[T,T] ty #[sv,.slice p m c]).run P w=.ok v' w'∧oC w' w.heap.size e ei.size v' (n+m) (ys++nv)∧w.grownBy w' none) →
         ∃v w' oA,(Builtin.append_ #[T,T] ty #[sv,.slice p m c]).run P w=.ok v w' ∧
          kZ F h0 w0 nt oA (mT.apply { dst:=some d,val:=.own d (st.aO d),dM:=(none:Option (Nat × Nat)).map fun p=>(p.1,p.2,none),new:=some (d,[.row e ei.size (n+m) (cs++news)])} st) (a.put (some d) v) w':=by
         rintro ys Ug ⟨v',w',hr,ho,hg⟩
         obtain⟨oA,S'⟩:=S.newRow d hd hg e ei.size (n+m) (cs++news) (ys++nv) v' ho (Ug.app Uf)
         exact⟨v',w',oA,hr,by rw[Option.map_none,lJ];exact S'⟩
        cases hs with
        | cl0 n q=>exact fin [] (.nil _) (main q [] rfl (.nil _) (by simp))
        | cl n cs b off arr T' fr hb hle hr DT =>
          have Bv:gB (ctx h0 w0 ρ st w) cs ((arr.toList.drop off).take cs.length):=by
           refine⟨by simp;omega,fun i x y hx hy=>?_,fun i y hy=>?_⟩
           ·have hi:=(List.getElem?_eq_some_iff.1 hx).1
            rw[List.getElem?_take,if_pos hi,List.getElem?_drop] at hy;exact hr i x y hx (by simpa using hy)
           ·rw[List.getElem?_take] at hy;split at hy
            ·rename_i hi;rw[List.getElem?_drop] at hy;exact DT i y hi (by simpa using hy)
            ·cases hy
          refine fin _ Bv (main _ _ rfl Bv fun _=>⟨⟨b,off,none⟩,rfl,fun j u hu=>?_⟩)
          rw[lU,cell_of_row w b (off+j) arr T' fr hb.1];rw[List.getElem?_take] at hu;split at hu
          ·rw[List.getElem?_drop] at hu;simpa using hu
          ·cases hu
       ·cases h
      ·cases h
     ·cases h
theorem BZ (S:kZ F h0 w0 nt ρ st a w) {T ty:Nat} {s x:AV} {u:Nat × Nat × jI × Nat} {sv xv:Value} (h:kJ P st T s x=some u)
 (hs:cV (ctx h0 w0 ρ st w) s sv) (hx:cV (ctx h0 w0 ρ st w) x xv) :
 ∃v w',(Builtin.append_ #[T,T] ty #[sv,xv]).run P w=.ok v w'∧kZ F h0 w0 nt ρ (st.iH u.1 u.2.1 (some u.2.2.1)) a w' ∧
  cV (ctx h0 w0 ρ (st.iH u.1 u.2.1 (some u.2.2.1)) w') (.vw u.1 u.2.1 0 u.2.2.2) v:=by
 unfold kJ at h;split at h
 ·rename_i e sz by_ m news s' g' k SZ hv
  obtain⟨ei,ez,hT,Bu,BL,rfl,BE,rfl,Ec⟩:=kF SZ
  cases he:st.heap s' g' with
  | none=>simp[he] at h
  | some en =>
    cases en with
    | row e' sL n cs =>
      simp only[he] at h;split at h
      ·rename_i hc;obtain⟨rfl,rfl,hlen,aDQ⟩:=hc
       simp only[Option.some.injEq] at h;subst h;obtain⟨p,c,rfl,aAz⟩:=sY S hv hx
       have aAA:∃nv:List Value,gB (ctx h0 w0 ρ st w) news nv∧(nv≠[]→∃ad,p=some ad∧∀(j:Nat) (u:Value),nv[j]? = some u→w.cell? (ad.add j)=some u):=by
        by_cases gT:news=[]
        ·subst gT;exact⟨[],.nil _,fun h=>absurd rfl h⟩
        ·obtain⟨b,off,arr,T',fr,hp,hb,hc⟩:=aAz gT
         refine⟨_,hc,fun _=>⟨_,hp,fun j u hu=>?_⟩⟩
         rw[lU,cell_of_row w b (off+j) arr T' fr hb];rw[List.getElem?_take] at hu;split at hu
         ·rw[List.getElem?_drop] at hu;simpa using hu
         ·cases hu
       obtain⟨nv,Uf,oS⟩:=aAA
       have SX:nv.length=m * ei.size:=by rw[← Uf.len,hlen]
       have Qe:∀u∈nv,u.oneCell'=true:=fun u hu=>by
        obtain⟨j,hj,rfl⟩:=List.getElem_of_mem hu
        exact Uf.one j _ (by simp)
       obtain⟨_,_,xs,ho,Bv⟩:=S.sX s' g' _ he
       cases hs with
       | vw _ _ _ _ b cap hg hb nA zA =>
         have nX:dF (ρ s' g')=some b:=hb
         rcases ho.2 with ⟨q,lE,hn⟩|⟨b',BK,cur,lE,xA,hh,G3,F7,HX,ht,qS⟩
         ·rw[lE,pV] at nX;cases nX
         ·have xG:b'=b:=by rw[lE,kK qS] at nX;simpa using nX
          subst xG;have hcc:cap=BK:=zA rfl _ _ _ lE
          subst hcc;have hkm:(k+m) * ei.size≤n * ei.size:=Nat.mul_le_mul_right _ aDQ
          have hnn:n * ei.size≤cap * ei.size:=Nat.mul_le_mul_right _ G3
          rw[Nat.add_mul] at hkm;have hcl':cur.toList.length=cur.size:=rfl
          have qJ:(Builtin.append_ #[T,T] ty #[.slice (some ⟨b',0,none⟩) k cap,.slice p m c]).run P w=.ok (.slice (some ⟨b',0,none⟩) (k+m) cap) (w.setRow b' (cur.toList.take (k * ei.size)++nv++cur.toList.drop (k * ei.size+nv.length)).toArray):=by
           by_cases gT:nv=[]
           ·have hm:m=0:=by
             rw[gT] at SX;rcases Nat.eq_zero_or_pos m with h|h
             ·exact h
             ·have:=Nat.mul_pos h Ec
              simp at SX
              omega
            subst hm;have hfc:∀(x:Value),(∃p,x=.slice p 0 c)→(Builtin.firstCells ei.size 0 x).run P w=.ok #[] w:=by
             rintro x ⟨p,rfl⟩
             cases p<;>simp[Builtin.firstCells,loadCells,loadCellsFrom]
            have e0:(cur.toList.take (k * ei.size)++nv++cur.toList.drop (k * ei.size+nv.length)).toArray=cur:=by
             rw[gT];simp
            rw[e0,setRow_self w b' cur e' (0,0) hh];have hkc:k≤cap:=by omega
            simp[Builtin.append_,aW hT,run_sizeOf w Bu,Builtin.lenOf,hfc _ ⟨p,rfl⟩,storeCells,hkc]
           ·obtain⟨ad,rfl,Ys⟩:=oS gT
            exact run_append_room (P:=P) w T ty e' ei hT Bu b' k cap cur hh ad m c nv SX Ys Qe (by omega) (by omega)
          have hxl:=ho.1
          have hcsl:=Bv.len
          have S':=S.store (e':=.row e' ei.size n (cs.take (k * ei.size)++news++cs.drop (k * ei.size+m * ei.size))) (w':=w.setRow b' (cur.toList.take (k * ei.size)++nv++cur.toList.drop (k * ei.size+nv.length)).toArray) he nX ⟨rfl,rfl,rfl,by simp,fun j _ hj=>setRow_other w b' j _ (fun e=>hj (by rw[e]))⟩ (fun C kC=>by
           refine⟨xs.take (k * ei.size)++nv++xs.drop (k * ei.size+m * ei.size),⟨by simp;omega,.inr ⟨b',cap,_,lE,xA,setRow_heap w b' cur _ e' (0,0) hh,G3,F7,by simp;omega, ?_,qS⟩⟩,(((Bv.take _).app Uf).app (Bv.drop _)).le kC⟩
           simp only
           rw[← ht,SX];have l1:(cur.toList.take (k * ei.size)++nv).length=k * ei.size+m * ei.size:=by simp;omega
           rw[List.take_append,l1,List.take_of_length_le (by omega),List.drop_take,List.take_take,Nat.min_eq_left (by omega)])
          exact⟨_,_,qJ,S',.vw s' g' 0 _ b' cap hg hb (by show k+m≤cap;omega) (fun _=>zA rfl)⟩
      ·cases h
    | _=>simp[he] at h
 ·cases h
theorem OY (S:kZ F h0 w0 nt ρ st a w) {T ty:Nat} {x:AV} {u:Option (Nat × Nat × jI)} {xv:Value} (h:uB P st T x=some u) (hx:cV (ctx h0 w0 ρ st w) x xv) :
 ∃w',(Builtin.clear_ #[T] ty #[xv]).run P w=.ok (.tuple #[]) w'∧kZ F h0 w0 nt ρ (match u with|some p=>st.iH p.1 p.2.1 (some p.2.2)|none=>st) a w':=by
 unfold uB at h;split at h
 ·rename_i e sz by_ s g o k SZ _;obtain⟨ei,ez,hT,Bu,BL,rfl,BE,rfl,Ec⟩:=kF SZ
  split at h
  ·rename_i z e' sL n cs hz he
   split at h
   ·rename_i hc;obtain⟨rfl,rfl,aDQ⟩:=hc
    simp only[Option.some.injEq] at h;subst h;obtain⟨i',zv,Cn,LM,rfl,O8⟩:=zD hz
    rw[Bu] at Cn
    cases Cn
    rw[BL] at LM;cases LM
    obtain⟨_,_,xs,ho,Bv⟩:=S.sX s g _ he
    cases hx with
    | vw _ _ _ _ b cap hg hb nA zA =>
      have nX:dF (ρ s g)=some b:=hb
      rcases ho.2 with ⟨q,lE,hn⟩|⟨b',BK,cur,lE,xA,hh,G3,F7,HX,ht,qS⟩
      ·rw[lE,pV] at nX;cases nX
      ·have xG:b'=b:=by rw[lE,kK qS] at nX;simpa using nX
       subst xG;have hxl:=ho.1
       have hcsl:=Bv.len
       have hnn:n * ei.size≤BK * ei.size:=Nat.mul_le_mul_right _ G3
       have hcl':cur.toList.length=cur.size:=rfl
       have VU:(Builtin.zeroCells ez.cells k).toList=(List.range k).flatMap fun _=>ez.cells.toList:=by
        unfold Builtin.zeroCells;rw[← Ht]
       have hzl:((List.range k).flatMap fun _=>ez.cells.toList).length=k * ei.size:=by
        rw[← VU,Array.length_toList,size_zeroCells,BE]
       have hz1':∀v∈(List.range k).flatMap fun _=>ez.cells.toList,v.oneCell'=true:=fun v hv=>by
        obtain⟨_,_,hv⟩:=List.mem_flatMap.1 hv
        exact O8 v hv
       have uW:=run_storeCells_at P b' o e' ((List.range k).flatMap fun _=>ez.cells.toList) 0 cur w hh (by rw[hzl];omega) hz1'
       simp only[Nat.add_zero] at uW;have S':=S.store (e':=.row e' ei.size n (cs.take o++((List.range k).flatMap fun _=>ez.cells.toList.map .v)++cs.drop (o+k * ei.size))) (w':=w.setRow b' (cur.toList.take o++((List.range k).flatMap fun _=>ez.cells.toList)++cur.toList.drop (o+((List.range k).flatMap fun _=>ez.cells.toList).length)).toArray) he nX ⟨rfl,rfl,rfl,by simp,fun j _ hj=>setRow_other w b' j _ (fun e=>hj (by rw[e]))⟩ (fun C kC=>by
        refine⟨xs.take o++((List.range k).flatMap fun _=>ez.cells.toList)++xs.drop (o+k * ei.size),⟨by rw[List.length_append,List.length_append,hzl];simp;omega,.inr ⟨b',BK,_,lE,xA,setRow_heap w b' cur _ e' (0,0) hh,G3,F7,by rw[List.size_toArray,List.length_append,List.length_append,hzl];simp;omega, ?_,qS⟩⟩,(((Bv.take _).le kC).app (Jg O8 k)).app ((Bv.drop _).le kC)⟩
        simp only
        rw[← ht,hzl];have l1:(cur.toList.take o++((List.range k).flatMap fun _=>ez.cells.toList)).length=o+k * ei.size:=by rw[List.length_append,hzl];simp;omega
        rw[List.take_append,l1,List.take_of_length_le (by omega),List.drop_take,List.take_take,Nat.min_eq_left (by omega)])
       refine⟨_, ?_,S'⟩
       have hzv:(zeroValue e').run P w=.ok ez w:=by simp[zeroValue,typeInfo,Bu,BL]
       cases k with
       | zero =>
         have e0:(cur.toList.take o++((List.range 0).flatMap fun _=>ez.cells.toList)++cur.toList.drop (o+((List.range 0).flatMap fun _=>ez.cells.toList).length)).toArray=cur:=by simp
         rw[e0,setRow_self w b' cur e' (0,0) hh];simp[Builtin.clear_,aW hT]
       | succ k =>
         have hst2:(storeCells ⟨b',o,none⟩ (Builtin.zeroCells ez.cells (k+1)).toList).run P w=.ok () (w.setRow b' (cur.toList.take o++((List.range (k+1)).flatMap fun _=>ez.cells.toList)++cur.toList.drop (o+((List.range (k+1)).flatMap fun _=>ez.cells.toList).length)).toArray):=by rw[VU];exact uW
         obtain⟨W,hW⟩:∃W,w.setRow b' (cur.toList.take o++((List.range (k+1)).flatMap fun _=>ez.cells.toList)++cur.toList.drop (o+((List.range (k+1)).flatMap fun _=>ez.cells.toList).length)).toArray=W:=⟨_,rfl⟩
         rw[hW] at hst2;rw[hW];simp[Builtin.clear_,aW hT,hzv,hst2]
   ·cases h
  ·cases h
 ·rename_i t cs SZ _;simp only[Option.some.injEq] at h;subst h;obtain⟨e,sz,by_⟩:=t
  obtain⟨ei,ez,hT,_⟩:=kF SZ
  refine⟨w, ?_,S⟩
  cases hx with
  | LG n cap p nA=>cases p<;>simp[Builtin.clear_,aW hT]
  | sl n cs b off cap arr T fr nA hb hle hr h1=>simp[Builtin.clear_,aW hT]
 ·rename_i t SZ _;simp only[Option.some.injEq] at h;subst h;obtain⟨e,sz,by_⟩:=t
  obtain⟨ei,ez,hT,_⟩:=kF SZ
  have:=iN hx
  subst this;exact⟨w,by simp[Builtin.clear_,aW hT],S⟩
 ·cases h
theorem VV {C:Ctx} {x:AV} {v:Value} {g:Nat} {nJ:List AV} (h:BJ x=some (g,nJ)) (hr:cV C x v):∃cv,v=.func (.func g) #[] cv∧lP C nJ cv.toList:=by
 unfold BJ at h;split at h
 ·split at h
  ·rename_i hc;obtain⟨rfl,rfl⟩:=hc
   simp only[Option.some.injEq,Prod.mk.injEq] at h;obtain⟨rfl,rfl⟩:=h
   have:=iN hr
   subst this;exact⟨#[],rfl,.nil C⟩
  ·cases h
 ·simp only[Option.some.injEq,Prod.mk.injEq] at h;obtain⟨rfl,rfl⟩:=h
  cases hr with
  | Aj f cs a hl hr=>exact⟨a,rfl,by simpa using hl,fun i x y hx hy=>hr i x y hx (by simpa using hy)⟩
 ·cases h
variable [Ext]
theorem CA (S:kZ F h0 w0 nt ρ st a w) {call:Nat→List AV→Option AV} (kO:rM P call) {o:Oper} {c:Call} (qL:o.op=.call c) {e:mT}
 (h:gP P call c o.dst st=some e) (hd:∀d,o.dst=some d→d<nt)
 (hK:∀oA a' w',kZ F h0 w0 nt oA (e.apply st) a' w'→K a' w'):o.wp P a w K Q:=by
 have vB:lP (ctx h0 w0 ρ st w) (c.args.toList.map st.ev) (c.args.toList.map a.eval):=lP.map _ _ _ fun p _=>S.ev p
 unfold gP at h;split at h
 ·rename_i f hf;have fin:∀g cv,a.eval f=.func (.func g) #[] cv→(Hq P g∧Calls P g (c.args.map a.eval++cv) w fun en w'=>∃v,en=.returned v∧K (a.put o.dst v) w')→o.wp P a w K Q:=by
   rintro g cv hv ⟨⟨fn,aH0,aAB,aAC⟩,VW⟩
   have hnb:fn.body.isNone=false:=by
    cases hb:fn.body<;>simp[hb] at aAC ⊢
   have Qe : ¬ fn.name = "runtime.NumGoroutine" := by simpa using aAB
   have hn2:¬fn.body=none:=by intro h;simp[h] at hnb
   have qJ:(execOp a.eval o).run P w=.ok (.enter g (c.args.map a.eval++cv)) w:=by
    simp[execOp,qL,resolve,hf,hv,Deferred.ofValue,invoke,callFunc,aH0,Qe,hn2]
   unfold Oper.wp;rw[qJ,Oper.upon_enter];refine VW.mono ?_
   rintro en w' ⟨v,rfl,hk⟩
   exact hk
  have gen:∀g nJ,BJ (st.ev f)=some (g,nJ)→aN call g (c.args.toList.map st.ev++nJ) st o.dst=some e→o.wp P a w K Q:=by
   intro g nJ hfn h;obtain⟨cv,hv,hcaps⟩:=VV hfn (S.ev f)
   have gA:lP (ctx h0 w0 ρ st w) (c.args.toList.map st.ev++nJ) (c.args.map a.eval++cv).toList:=by
    simpa using vB.app hcaps
   exact fin g cv hv (Ez S kO h gA hd hK)
  unfold mQ at h;split at h
  ·rename_i g;split at h
   ·refine fin g #[] rfl ?_
    exact HZ S kO h (by simpa using vB) hd hK
   ·split at h
    ·refine fin g #[] rfl ?_
     exact BY S kO h (by simpa using vB) hd hK
    ·exact gen g [] rfl (by simpa using h)
  ·split at h
   ·rename_i g nJ hfn;exact gen g nJ hfn h
   ·cases h
 ·rename_i hf;split at h
  ·rename_i x T hx hT;cases hs:dN P T with
   | none=>simp[hs] at h
   | some t =>
     cases hv:aQ st (st.ev x) with
     | none=>simp[hs,hv] at h
     | some nc =>
       obtain⟨n,cs⟩:=nc
       simp only[hs,hv,Option.some.injEq] at h;subst h;obtain⟨p,cap,IC,_⟩:=sY S hv (S.ev x)
       obtain⟨e,sz,by_⟩:=t
       obtain⟨ei,ez,hu,_⟩:=kF hs
       have ha:c.args=#[x]:=by apply Array.ext';simpa using hx
       have ht:c.argTypes=#[T]:=by apply Array.ext';simpa using hT
       refine upon_value (v:=.int .i64 n) ?_ (hK ρ _ w (S.put o.dst hd (.v _)))
       simp[execOp,qL,resolve,hf,ha,ht,invoke,builtin,Builtin.len_,IC,aW hu,goInt]
  ·cases h
 ·rename_i hf;split at h
  ·rename_i x y hx;split at h
   ·rename_i k p k' q h1 h2
    simp only[Option.some.injEq] at h;subst h;have e1:=S.ev x
    rw[h1] at e1;have e1:=iN e1
    have e2:=S.ev y
    rw[h2] at e2;have e2:=iN e2
    have ha:c.args=#[x,y]:=by apply Array.ext';simpa using hx
    refine upon_value (v:=.int k (if q<p then q else p)) ?_ (hK ρ _ w (S.put o.dst hd (.v _)))
    simp[execOp,qL,resolve,hf,ha,invoke,builtin,Builtin.min_,Builtin.min2,e1,e2]
   ·cases h
  ·cases h
 ·rename_i hf;split at h
  ·rename_i x y hx;split at h
   ·rename_i k p k' q h1 h2
    simp only[Option.some.injEq] at h;subst h;have e1:=S.ev x
    rw[h1] at e1;have e1:=iN e1
    have e2:=S.ev y
    rw[h2] at e2;have e2:=iN e2
    have ha:c.args=#[x,y]:=by apply Array.ext';simpa using hx
    refine upon_value (v:=.int k (if q > p then q else p)) ?_ (hK ρ _ w (S.put o.dst hd (.v _)))
    simp[execOp,qL,resolve,hf,ha,invoke,builtin,Builtin.max_,Builtin.max2,e1,e2]
   ·cases h
  ·cases h
 ·rename_i hf;cases lG:o.dst with
  | none=>simp[lG,cC] at h
  | some d =>
  simp only[lG,cC] at h;split at h
  ·rename_i s x T T' hx hT
   split at h
   ·rename_i hTT;subst hTT;split at h
    ·cases nM:kJ P st T (st.ev s) (st.ev x) with
     | none=>simp[nM] at h
     | some u =>
     simp only[nM,Option.map_some,Option.some.injEq] at h;subst h;obtain⟨v,w',hr,S',hv⟩:=BZ (ty:=o.type) S nM (S.ev s) (S.ev x)
     have ha:c.args=#[s,x]:=by apply Array.ext';simpa using hx
     have ht:c.argTypes=#[T,T]:=by apply Array.ext';simpa using hT
     rw[lG] at hd;have hk:=hK ρ _ w' (S'.put (some d) hd hv)
     unfold Oper.wp;simp only[execOp,qL,resolve,hf,ha,ht,invoke,builtin];simp[hr]
     unfold Oper.upon;rw[lG];exact hk
    split at h
    ·rename_i hpa;obtain⟨_,hs0,SZ,hv'⟩:=hpa
     obtain⟨⟨_,cs⟩,hv,hv0⟩:=Option.map_eq_some_iff.1 hv'
     simp only at hv0
     subst hv0;simp only[Option.some.injEq] at h;subst h;have e1:=S.ev s
     rw[hs0] at e1;have e1:=iN e1
     obtain⟨q,c',hxv,_⟩:=sY S hv (S.ev x)
     cases hsi:dN P T with
     | none=>rw[hsi] at SZ;cases SZ
     | some t =>
     obtain⟨e,sz,by_⟩:=t
     obtain⟨ei,ez,hT',Bu,_⟩:=kF hsi
     have hz:∀w:World,(Builtin.firstCells ei.size 0 (.slice q 0 c')).run P w=.ok ([]:List Value).toArray w:=fun w=>by cases q<;>simp[Builtin.firstCells,loadCells,loadCellsFrom]
     have hr:(Builtin.append_ #[T,T] o.type #[.slice none 0 0,.slice q 0 c']).run P w=.ok (.slice none 0 0) w:=run_append_nothing w T T o.type e ei hT' Bu none 0 0 (Nat.le_refl _) _ ⟨.inl ⟨e,hT'⟩,fun w'=>by simp[Builtin.lenOf],hz _,hz _,by simp,by simp⟩
     have ha:c.args=#[s,x]:=by apply Array.ext';simpa using hx
     have ht:c.argTypes=#[T,T]:=by apply Array.ext';simpa using hT
     rw[lG] at hd;refine upon_value (v:=.slice none 0 0) ?_ (by rw[lG];exact hK ρ _ w (S.put (some d) hd (.v _)))
     simp[execOp,qL,resolve,hf,ha,ht,invoke,builtin,e1,hxv,hr]
    cases nM:dC P st T (st.ev s) (st.ev x) with
    | none=>simp[nM] at h
    | some ur =>
      obtain⟨u,r⟩:=ur
      simp only[nM,Option.some.injEq] at h;subst h;obtain⟨v,w',oA,hr,S'⟩:=IB (ty:=o.type) S (hd d lG) nM (S.ev s) (S.ev x)
      have ha:c.args=#[s,x]:=by apply Array.ext';simpa using hx
      have ht:c.argTypes=#[T,T]:=by apply Array.ext';simpa using hT
      have hk:=hK oA _ w' S'
      unfold Oper.wp;simp only[execOp,qL,resolve,hf,ha,ht,invoke,builtin];simp[hr]
      unfold Oper.upon;rw[lG];exact hk
   ·cases h
  ·cases h
 ·rename_i hf;split at h
  ·rename_i x T hx hT;cases nM:uB P st T (st.ev x) with
   | none=>simp[nM] at h
   | some u =>
     simp only[nM,Option.map_some,Option.some.injEq] at h;subst h;obtain⟨w',hr,S'⟩:=OY (ty:=o.type) S nM (S.ev x)
     have ha:c.args=#[x]:=by apply Array.ext';simpa using hx
     have ht:c.argTypes=#[T]:=by apply Array.ext';simpa using hT
     have hk:=hK ρ (a.put o.dst (.tuple #[])) w' (by
      have:=S'.put o.dst hd (x:=.dZ []) (v:=.tuple #[]) (.dZ [] #[] rfl (by simp))
      cases u with
      | none=>exact this
      | some p=>exact this)
     unfold Oper.wp;simp only[execOp,qL,resolve,hf,ha,ht,invoke,builtin];simp[hr]
     unfold Oper.upon;exact hk
  ·cases h
 ·cases h
theorem Th (S:kZ F h0 w0 nt ρ st a w) {call:Nat→List AV→Option AV} (kO:rM P call) {o:Oper} {e:mT} (h:cZ P call o st=some e) (hd:∀d,o.dst=some d→d<nt)
 (hK:∀oA a' w',kZ F h0 w0 nt oA (e.apply st) a' w'→K a' w'):o.wp P a w K Q:=by
 unfold cZ at h;split at h
 ·rename_i T qL;cases lG:o.dst with
  | none=>simp[lG,cC] at h
  | some d =>
    cases hz:dX P T with
    | none=>simp[lG,hz,cC] at h
    | some z =>
      simp only[lG,hz,cC,Option.some.injEq] at h;subst h;obtain⟨i,zv,hi,LM,rfl,O8⟩:=zD hz
      obtain⟨oA,S'⟩:=S.newVar d (hd d lG) (zv.cells.toList.map .v) zv.cells T (gB.vs _ _ O8)
      refine upon_value (v:=.pointer (some ⟨w.heap.size,0,none⟩)) (w':=w.alloc (.cells zv.cells T)) ?_ (by rw[lG];exact hK oA _ _ (by rw[lJ];exact S'))
      simp only[execOp,qL,Instr.alloc];simp[Bs w hi LM,Go.newVar,Go.newRow]
 ·rename_i T x qL;cases lG:o.dst with
  | none=>simp[lG,cC] at h
  | some d =>
    simp only[lG,cC] at h;split at h
    ·rename_i uW;simp only[Option.some.injEq] at h;subst h;obtain⟨oA,S'⟩:=S.newVar d (hd d lG) (st.ev x).cells (a.eval x).cells T ((S.ev x).cells uW)
     refine upon_value (v:=.pointer (some ⟨w.heap.size,0,none⟩)) (w':=w.alloc (.cells (a.eval x).cells T)) ?_ (by rw[lG];exact hK oA _ _ (by rw[lJ];exact S'))
     simp only[execOp,qL,Instr.box];simp[Go.newVar,Go.newRow]
    ·cases h
 ·rename_i T n parts qL;cases lG:o.dst with
  | none=>simp[lG,cC] at h
  | some d =>
    cases hs:dN P T with
    | none=>simp[lG,hs,cC] at h
    | some t =>
      obtain⟨e',sz,by_⟩:=t
      cases hz:dX P e' with
      | none=>simp[lG,hs,hz,cC] at h
      | some z =>
        simp only[lG,hs,hz,cC] at h;split at h
        ·rename_i hc;obtain⟨c1,c2,c3⟩:=hc
         cases hf:gN (fun i=>some (i * sz,sz)) ((List.range n).flatMap fun _=>z.map .v) (parts.toList.map fun p=>(p.1,st.ev p.2)) with
         | none=>simp[hf] at h
         | some cs =>
           simp only[hf,Option.some.injEq] at h;subst h;obtain⟨v,w',xs,hr,hg,ho,oS⟩:=Rl S hs hz c1 c2 c3 hf
           obtain⟨oA,S'⟩:=S.newRow d (hd d lG) hg e' sz n cs xs v ho oS
           refine upon_value (v:=v) (w':=w') ?_ (by rw[lG];exact hK oA _ _ (by rw[lJ];exact S'))
           simp only[execOp,qL];rw[dJ hr];rfl
        ·cases h
 ·rename_i T l c qL;cases lG:o.dst with
  | none=>simp[lG,cC] at h
  | some d =>
    cases hs:dN P T with
    | none=>simp[lG,hs,cC] at h
    | some t =>
      obtain⟨e',sz,by_⟩:=t
      cases hz:dX P e' with
      | none=>simp[lG,hs,hz,cC] at h
      | some z =>
        simp only[lG,hs,hz,cC] at h;split at h
        ·rename_i n m hl hc;split at h
         ·rename_i O7;obtain⟨c1,rfl,c3,c4⟩:=O7
          simp only[Option.some.injEq] at h;subst h;obtain⟨k,rfl⟩:∃k:Nat,n=k:=⟨n.toNat,by omega⟩
          obtain⟨v,w',xs,hr,hg,ho,oS⟩:=Uh (w:=w) (ctx h0 w0 ρ st w) hs hz (n:=k) (by
           have:((k * by_:Nat):Int)≤140737488355328:=by rw[Int.natCast_mul];exact c3
           omega) (by omega)
          obtain⟨oA,S'⟩:=S.newRow d (hd d lG) hg e' sz k _ xs v ho oS
          simp only[Int.toNat_natCast] at hK;refine upon_value (v:=v) (w':=w') ?_ (by rw[lG];exact hK oA _ _ (by rw[lJ];exact S'))
          have e1:=S.ev l
          rw[hl] at e1;have e1:=iN e1
          have e2:=S.ev c
          rw[hc] at e2;have e2:=iN e2
          simp only[execOp,qL,e1,e2];rw[dJ hr];rfl
         ·cases h
        ·cases h
 ·rename_i T x y qL;cases hs:pX P st T (st.ev x) (st.ev y) with
  | none=>simp[hs] at h
  | some u =>
    obtain⟨s,g,e'⟩:=u
    simp only[hs,Option.map_some,Option.some.injEq] at h;subst h;obtain⟨w',hr,S'⟩:=OX S hs (S.ev x) (S.ev y)
    have hk:=hK ρ _ w' (S'.put o.dst hd (.v undef))
    unfold Oper.wp;simp only[execOp,qL];rw[dJ hr];exact hk
 ·rename_i T qL;cases lG:o.dst with
  | none=>simp[lG,cC] at h
  | some d =>
    simp only[lG,cC,Option.some.injEq] at h;subst h;obtain⟨S',k,oZ⟩:=S.new (World.grownBy_alloc w (.map #[] 0) none) d (.map []) (.map (some w.heap.size)) rfl (fun b hb=>by simp[dF] at hb;omega)
     (fun C k _=>⟨w.heap.size,#[],0,rfl,S.ext.size,heap_alloc_new w _,trivial⟩)
    have aZ:st.aO d<(ctx h0 w0 (uC ρ d (st.aO d) (.map (some w.heap.size))) (st.new d (.map [])) (w.alloc (.map #[] 0))).aO d:=by simp[ctx,St.new]
    have lE:(ctx h0 w0 (uC ρ d (st.aO d) (.map (some w.heap.size))) (st.new d (.map [])) (w.alloc (.map #[] 0))).ρ d (st.aO d)=.map (some w.heap.size):=oZ
    have:=cV.mp (C:=ctx h0 w0 (uC ρ d (st.aO d) (.map (some w.heap.size))) (st.new d (.map [])) (w.alloc (.map #[] 0))) d (st.aO d) aZ (by rw[lE];rfl)
    rw[lE] at this;have hS:=S'.put (some d) (fun t ht=>by cases ht;exact hd d lG) this
    refine upon_value (v:=.map (some w.heap.size)) (w':=w.alloc (.map #[] 0)) ?_ (by rw[lG];exact hK _ _ _ (by rw[lJ];exact hS))
    simp only[execOp,qL,Option.map_none];rfl
 ·rename_i T m x y qL;cases hs:uA P st T (st.ev m) (st.ev x) (st.ev y) with
  | none=>simp[hs] at h
  | some u =>
    obtain⟨s,g,e'⟩:=u
    simp only[hs,Option.map_some,Option.some.injEq] at h;subst h;obtain⟨w',hr,S'⟩:=HU S hs (S.ev m) (S.ev x) (S.ev y)
    have hk:=hK ρ _ w' (S'.put o.dst hd (.v undef))
    unfold Oper.wp;simp only[execOp,qL];rw[dJ hr];exact hk
 ·rename_i c qL;exact CA S kO qL h hd hK
 ·cases hv:iQ P st o.op with
  | none=>simp[hv] at h
  | some x =>
    simp only[hv,Option.map_some,Option.some.injEq] at h;subst h;obtain⟨v,hr,gA⟩:=OR S hv
    exact upon_value hr (hK ρ _ w (S.put o.dst hd gA))
end
end Go.Ab
end
section
namespace Go.Ab
open Classical
def mN (aO:Nat→Nat) (x:AV):Prop:=∃(C:Ctx) (v:Value),C.aO=aO∧cV C x v
theorem mN.ptr {aO:Nat→Nat} {s g o:Nat} (h:mN aO (.ptr s g o)):g<aO s:=by
 obtain⟨C,v,rfl,h⟩:=h
 cases h with
 | ptr s g off b hg hb=>exact hg
theorem mN.own {aO:Nat→Nat} {s g:Nat} (h:mN aO (.own s g)):g<aO s:=by
 obtain⟨C,v,rfl,h⟩:=h
 cases h with
 | own s g hg _=>exact hg
theorem mN.vw {aO:Nat→Nat} {s g o n:Nat} (h:mN aO (.vw s g o n)):g<aO s:=by
 obtain⟨C,v,rfl,h⟩:=h
 cases h with
 | vw s g o n b cap hg _ _ _=>exact hg
theorem mN.mp {aO:Nat→Nat} {s g:Nat} (h:mN aO (.mp s g)):g<aO s:=by
 obtain⟨C,v,rfl,h⟩:=h
 cases h with
 | mp s g hg _=>exact hg
theorem mN.agg {aO:Nat→Nat} {cs:List AV} (h:mN aO (.agg cs)):∀c∈cs,mN aO c:=by
 obtain⟨C,v,rfl,h⟩:=h
 cases h with
 | agg cs a hl hr _ =>
   intro c hc;obtain⟨i,hi,rfl⟩:=List.getElem_of_mem hc
   exact⟨C,a[i],rfl,hr i _ _ (by simp[hi]) (by simp)⟩
theorem mN.Aj {aO:Nat→Nat} {f:Nat} {cs:List AV} (h:mN aO (.Aj f cs)):∀c∈cs,mN aO c:=by
 obtain⟨C,v,rfl,h⟩:=h
 cases h with
 | Aj f cs a hl hr =>
   intro c hc;obtain⟨i,hi,rfl⟩:=List.getElem_of_mem hc
   exact⟨C,a[i]'(by omega),rfl,hr i _ _ (by simp[hi]) (by simp)⟩
section
variable {P:Program} {call:Nat→List AV→Option AV} {st st':St}
def qK (st st':St):Prop:=∀s g,g<st.aO s→st'.heap s g=st.heap s g
theorem ID {x:AV} (hx:mN st.aO x) (hh:qK st st'):qQ st' x=qQ st x:=by
 cases x<;>simp only[qQ]
 rw[hh _ _ hx.ptr]
theorem sZ {x:AV} (hx:mN st.aO x) (hh:qK st st'):aQ st' x=aQ st x:=by
 cases x
 case own=>simp only[aQ,hh _ _ hx.own]
 case vw=>simp only[aQ,hh _ _ hx.vw]
 case v y =>
  cases y
  case slice p n c=>cases p<;>cases n<;>cases c<;>rfl
  all_goals rfl
 all_goals rfl
theorem Rn {T:Nat} {x i:AV} (hx:mN st.aO x) (hh:qK st st'):bD P st' T x i=bD P st T x i:=by
 unfold bD;cases x<;>try rfl
 simp only[hh _ _ hx.own]
theorem Yt {T:Nat} {x:AV} {lo hi:Option Operand} (hx:∀s g,((∃o,x=.ptr s g o)∨x=.own s g∨∃o n,x=.vw s g o n)→st'.heap s g=st.heap s g) (hl:∀p,lo=some p→st'.ev p=st.ev p) (Cn:∀p,hi=some p→st'.ev p=st.ev p):cS P st' T x lo hi=cS P st T x lo hi:=by
 unfold cS;cases dN P T with
 | none =>
   simp only
   cases jJ P T with
   | none=>rfl
   | some na =>
     cases x<;>try rfl
     rename_i s g o;cases lo<;>cases hi<;>try rfl
     simp only[hx s g (.inl ⟨o,rfl⟩)]
 | some t =>
   simp only
   cases x<;>try rfl
   case v y =>
    cases y<;>try rfl
    rename_i p n c;cases p<;>cases n<;>cases c<;>try rfl
    cases lo with
    | none=>cases hi with
      | none=>rfl
      | some h=>simp only[Cn h rfl]
    | some l=>cases hi with
      | none=>simp only[hl l rfl]
      | some h=>simp only[hl l rfl,Cn h rfl]
   case sl n cs =>
    cases lo with
    | none=>cases hi with
      | none=>rfl
      | some h=>simp only[Cn h rfl]
    | some l=>cases hi with
      | none=>simp only[hl l rfl]
      | some h=>simp only[hl l rfl,Cn h rfl]
   case own s g =>
    simp only[hx s g (.inr (.inl rfl))];cases lo with
    | none=>cases hi with
      | none=>rfl
      | some h=>simp only[Cn h rfl]
    | some l=>cases hi with
      | none=>simp only[hl l rfl]
      | some h=>simp only[hl l rfl,Cn h rfl]
   case vw s g o n =>
    cases o with
    | succ o=>rfl
    | zero =>
      simp only[hx s g (.inr (.inr ⟨_,_,rfl⟩))];cases st.heap s g with
      | none=>rfl
      | some e=>cases e with
        | row e' sL n' Ar =>
          cases lo with
          | none=>cases hi<;>rfl
          | some l=>cases hi with
            | none=>rfl
            | some h=>simp only[hl l rfl,Cn h rfl]
        | _=>rfl
theorem IE {T:Nat} {x:AV} {lo hi:Option Operand} (hx:mN st.aO x) (hh:qK st st') (hl:∀p,lo=some p→st'.ev p=st.ev p) (Cn:∀p,hi=some p→st'.ev p=st.ev p):cS P st' T x lo hi=cS P st T x lo hi :=
 Yt (fun s g h=>by
  rcases h with ⟨o,rfl⟩|rfl|⟨o,n,rfl⟩
  ·exact hh _ _ hx.ptr
  ·exact hh _ _ hx.own
  ·exact hh _ _ hx.vw) hl Cn
def CB (st:St):Prop:=∀s g cs,st.heap s g=some (.cells cs)→∀c∈cs,mN st.aO c
theorem OZ {x:AV} (hx:mN st.aO x) (hh:qK st st'):tO st' x=tO st x:=by
 unfold tO;cases x<;>try rfl
 ·simp only[hh _ _ hx.own]
 ·simp only[hh _ _ hx.vw]
theorem Hu (hp:CB st) {x:AV} (hx:mN st.aO x) (hh:qK st st'):cM st' x=cM st x:=by
 unfold cM;cases x<;>try rfl
 ·rename_i s g o;simp only[hh _ _ hx.ptr];cases he:st.heap s g with
  | none=>rfl
  | some e =>
    cases e with
    | cells cs =>
      have:cs.map (tO st')=cs.map (tO st):=List.map_congr_left fun c hc=>OZ (hp s g cs he c hc) hh
      simp only[this]
    | _=>rfl
 ·simp only[hh _ _ hx.own]
 ·simp only[hh _ _ hx.vw]
theorem Yu (hp:CB st) {x:AV} (hx:mN st.aO x) (hh:qK st st'):fU st' x=fU st x:=by
 unfold fU;cases x<;>try (simp only[Hu hp hx hh];done)
 ·rename_i cs;have:cs.map (cM st')=cs.map (cM st):=List.map_congr_left fun c hc=>Hu hp (hx.agg c hc) hh
  simp only[this]
 ·rename_i f cs;have:cs.map (cM st')=cs.map (cM st):=List.map_congr_left fun c hc=>Hu hp (hx.Aj c hc) hh
  simp only[this]
theorem IF {T:Nat} {x y:AV} (hx:mN st.aO x) (hh:qK st st'):pX P st' T x y=pX P st T x y:=by
 unfold pX;cases x<;>try rfl
 simp only[hh _ _ hx.ptr]
theorem CC {T:Nat} {s x:AV} (hs:mN st.aO s) (hx:mN st.aO x) (hh:qK st st'):dC P st' T s x=dC P st T s x:=by
 unfold dC;simp only[sZ hx hh];cases s
 case own=>simp only[hh _ _ hs.own]
 case v y =>
  cases y
  case slice p n c=>cases p<;>cases n<;>cases c<;>rfl
  all_goals rfl
 all_goals rfl
theorem CD {T:Nat} {s x:AV} (hs:mN st.aO s) (hx:mN st.aO x) (hh:qK st st'):kJ P st' T s x=kJ P st T s x:=by
 unfold kJ;rw[sZ hx hh];cases dN P T with
 | none=>rfl
 | some t=>cases aQ st x with
   | none=>rfl
   | some mn =>
     cases s<;>try rfl
     case vw s g o n =>
      cases o with
      | zero=>simp only[hh _ _ hs.vw]
      | succ o=>rfl
theorem IG {T:Nat} {x:AV} (hx:mN st.aO x) (hh:qK st st'):uB P st' T x=uB P st T x:=by
 unfold uB;cases dN P T with
 | none=>rfl
 | some t =>
   cases x<;>try rfl
   case vw s g o n=>simp only[hh _ _ hx.vw]
   case v y =>
    cases y<;>try rfl
    rename_i p n c;cases p<;>cases n<;>cases c<;>rfl
   case sl n cs=>cases n<;>rfl
theorem Ti {T:Nat} {x:AV} {lo:Option Operand} {hi mx:Operand} (hx:∀s g,x=.own s g→st'.heap s g=st.heap s g) (hl:∀p,lo=some p→st'.ev p=st.ev p) (h1:st'.ev hi=st.ev hi) (h2:st'.ev mx=st.ev mx):wI P st' T x lo hi mx=wI P st T x lo hi mx:=by
 unfold wI;rw[h1,h2];cases dN P T with
 | none=>rfl
 | some t =>
   simp only
   cases lo with
   | none =>
     simp only
     cases x<;>try rfl
     case own s g=>simp only[hx s g rfl]
     case v y =>
      cases y<;>try rfl
      rename_i p n c;cases p<;>cases n<;>cases c<;>rfl
   | some l =>
     simp only[hl l rfl];cases x<;>try rfl
     case own s g=>simp only[hx s g rfl]
     case v y =>
      cases y<;>try rfl
      rename_i p n c;cases p<;>cases n<;>cases c<;>rfl
theorem PA {T:Nat} {m x:AV} {ok:Bool} (hm:mN st.aO m) (hh:qK st st'):Sp P st' T m x ok=Sp P st T m x ok:=by
 unfold Sp;cases m<;>try rfl
 simp only[hh _ _ hm.mp]
theorem CE {T:Nat} {m x y:AV} (hm:mN st.aO m) (hh:qK st st'):uA P st' T m x y=uA P st T m x y:=by
 unfold uA;cases m<;>try rfl
 simp only[hh _ _ hm.mp]
theorem II {r:AV} {dst:Option Nat} (hc:∀d,dst=some d→st'.aO d=st.aO d):iM r st' dst=iM r st dst:=by
 unfold iM;cases dst with
 | none=>rfl
 | some d=>simp only[hc d rfl]
theorem yI (hp:CB st) {g:Nat} {args:List AV} {dst:Option Nat} (hx:∀x∈args,mN st.aO x) (hh:qK st st') (hc:∀d,dst=some d→st'.aO d=st.aO d):aN call g args st' dst=aN call g args st dst:=by
 unfold aN;have:args.map (fU st')=args.map (fU st):=List.map_congr_left fun x Iz=>Yu hp (hx x Iz) hh
 rw[this];have h2:∀r,iM r st' dst=iM r st dst:=fun r=>II hc
 simp only[h2]
theorem IJ (hp:CB st) {g:Nat} {args:List AV} {dst:Option Nat} (hx:∀x∈args,mN st.aO x) (hh:qK st st') (hc:∀d,dst=some d→st'.aO d=st.aO d):jV call g args st' dst=jV call g args st dst:=by
 unfold jV;split
 ·rename_i s k rest;rw[hh _ _ (hx _ (List.mem_cons_self ..)).own];cases dst with
  | none=>rfl
  | some d=>simp only[hc d rfl]
 ·rw[yI hp hx hh hc]
theorem CF (hp:CB st) {g:Nat} {args:List AV} {dst:Option Nat} (hx:∀x∈args,mN st.aO x) (hh:qK st st') (hc:∀d,dst=some d→st'.aO d=st.aO d):fC call g args st' dst=fC call g args st dst:=by
 have h1:=yI (call:=call) (g:=g) hp hx hh hc
 have:args.map (fU st')=args.map (fU st):=List.map_congr_left fun x Iz=>Yu hp (hx x Iz) hh
 unfold fC;rw[this,h1];have h2:∀r s k,yX r st' dst s k=yX r st dst s k:=fun r s k=>by
  unfold yX;cases dst with
  | none=>cases r<;>rfl
  | some d=>cases r<;>simp only[hc d rfl]
 simp only[h2]
theorem Ok {parts:List (Nat × Operand)} (h:∀p∈parts,st'.ev p.2=st.ev p.2):(parts.map fun p=>(p.1,st'.ev p.2))=parts.map fun p=>(p.1,st.ev p.2) :=
 List.map_congr_left fun p hp=>by rw[h p hp]
theorem Vr {parts:List (Nat × Operand)} (h:∀p∈parts,st'.ev p.2=st.ev p.2):(parts.all fun p=>(st'.ev p.2).jR)=parts.all fun p=>(st.ev p.2).jR:=by
 induction parts with
 | nil=>rfl
 | cons p ps ih =>
   simp only[List.all_cons];rw[h p (by simp),ih fun q hq=>h q (by simp[hq])]
theorem G4 {aO:Nat→Nat} {x:AV} {g:Nat} {nJ:List AV} (h:BJ x=some (g,nJ)) (hx:mN aO x):∀c∈nJ,mN aO c:=by
 unfold BJ at h;split at h
 ·split at h
  ·simp only[Option.some.injEq,Prod.mk.injEq] at h;obtain⟨rfl,rfl⟩:=h
   simp
  ·cases h
 ·simp only[Option.some.injEq,Prod.mk.injEq] at h;obtain⟨rfl,rfl⟩:=h
  exact hx.Aj
 ·cases h
variable [Ext]
theorem CG (hp:CB st) {c:Call} {dst:Option Nat} (he:∀p∈c.operands,st'.ev p=st.ev p) (hi:∀p∈c.operands,mN st.aO (st.ev p)) (hh:qK st st') (hc:∀d,dst=some d→st'.aO d=st.aO d) :
 gP P call c dst st'=gP P call c dst st:=by
 have vB:∀p∈c.args.toList,p∈c.operands:=fun p hp=>by simp[Call.operands];right;simpa using hp
 unfold gP;split
 ·rename_i f hf;have hfo:f∈c.operands:=by simp[Call.operands,hf]
  have hm:c.args.toList.map st'.ev=c.args.toList.map st.ev:=List.map_congr_left fun p hp=>he p (vB p hp)
  have hia:∀x∈c.args.toList.map st.ev,mN st.aO x:=fun x hx=>by
   obtain⟨p,hp,rfl⟩:=List.mem_map.1 hx
   exact hi p (vB p hp)
  unfold mQ;rw[hm];split
  ·split
   ·exact IJ hp hia hh hc
   ·split
    ·exact CF hp hia hh hc
    ·exact yI hp hia hh hc
  ·rw[he f hfo];cases h:BJ (st.ev f) with
   | none=>rfl
   | some gc =>
     obtain⟨g,nJ⟩:=gc
     refine yI hp (fun x hx=>?_) hh hc
     rcases List.mem_append.1 hx with hx|hx
     ·exact hia x hx
     ·exact G4 h (hi f hfo) x hx
 ·split
  ·rename_i x T hx hT;have hxo:=vB x (by rw[hx];simp)
   rw[he x hxo,sZ (hi x hxo) hh]
  ·rfl
 ·split
  ·rename_i x y hx;rw[he x (vB x (by rw[hx];simp)),he y (vB y (by rw[hx];simp))]
  ·rfl
 ·split
  ·rename_i x y hx;rw[he x (vB x (by rw[hx];simp)),he y (vB y (by rw[hx];simp))]
  ·rfl
 ·cases dst with
  | none=>rfl
  | some d =>
  simp only[cC];split
  ·rename_i s x T T' hx hT
   have hso:=vB s (by rw[hx];simp)
   have hxo:=vB x (by rw[hx];simp)
   have hn:Br P st' T (st'.ev s) (st'.ev x)=Br P st T (st.ev s) (st.ev x):=by simp only[Br,he s hso,he x hxo,sZ (hi x hxo) hh]
   rw[hn,he s hso,he x hxo,CC (hi s hso) (hi x hxo) hh,CD (hi s hso) (hi x hxo) hh,hc d rfl]
  ·rfl
 ·split
  ·rename_i x T hx hT;have hxo:=vB x (by rw[hx];simp)
   rw[he x hxo,IG (hi x hxo) hh]
  ·rfl
 ·rfl
theorem PB (hp:CB st) {o:Oper} (he:∀p∈o.op.operands,st'.ev p=st.ev p) (hi:∀p∈o.op.operands,mN st.aO (st.ev p)) (hh:qK st st') (hc:∀d,o.dst=some d→st'.aO d=st.aO d) :
 cZ P call o st'=cZ P call o st:=by
 obtain⟨dst,op,type,pos,after,guard⟩:=o
 cases op<;>simp only[cZ,iQ,Op.operands] at *
 case call c=>exact CG hp he hi hh hc
 case alloc T=>cases dst with
  | none=>rfl
  | some d=>simp only[cC,hc d rfl]
 case box T x=>cases dst with
  | none=>rfl
  | some d=>simp only[cC,hc d rfl,he x (by simp)]
 case buildSlice T n parts =>
  have Ai:∀p∈parts.toList,st'.ev p.2=st.ev p.2:=fun p hp=>he p.2 (by simp;exact⟨p.1,by simpa using hp⟩)
  rw[Ok Ai,Vr Ai];cases dst with
  | none=>rfl
  | some d=>simp only[cC,hc d rfl]
 case makeSlice T l c =>
  rw[he l (by simp),he c (by simp)]
  cases dst with
  | none=>rfl
  | some d=>simp only[cC,hc d rfl]
 case makeMap T r =>
  cases r with
  | none=>cases dst with
    | none=>rfl
    | some d=>simp only[cC,hc d rfl]
  | some r=>rfl
 case mapUpdate T m x y=>rw[he m (by simp),he x (by simp),he y (by simp),CE (hi m (by simp)) hh]
 case lookup T m x ok=>rw[he m (by simp),he x (by simp),PA (hi m (by simp)) hh]
 case store T x y=>rw[he x (by simp),he y (by simp),IF (hi x (by simp)) hh]
 case move x=>rw[he x (by simp)]
 case assign x=>rw[he x (by simp)]
 case pick c x y=>rw[he c (by simp),he x (by simp),he y (by simp)]
 case binOp op T x y yT=>rw[he x (by simp),he y (by simp)]
 case unOp op T x=>rw[he x (by simp)]
 case convert s d x=>rw[he x (by simp)]
 case nilCheck x=>rw[he x (by simp)]
 case field T x f=>rw[he x (by simp)]
 case fieldAddr T x f=>rw[he x (by simp)]
 case indexAddr T x i=>rw[he x (by simp),he i (by simp),Rn (hi x (by simp)) hh]
 case load T x=>rw[he x (by simp),ID (hi x (by simp)) hh]
 case extract t i=>rw[he t (by simp)]
 case build T parts =>
  have Ai:∀p∈parts.toList,st'.ev p.2=st.ev p.2:=fun p hp=>he p.2 (by simp;exact⟨p.1,by simpa using hp⟩)
  unfold iV;rw[Ok Ai,Vr Ai]
 case slice T x lo Cn mx =>
  cases mx with
  | some m =>
    cases Cn with
    | none=>rfl
    | some h =>
      simp only
      rw[he x (by simp),Ti (fun s g hx=>by have:=hi x (by simp);rw[hx] at this;exact hh _ _ this.own) (fun p hp=>he p (by simp[hp])) (he h (by simp)) (he m (by simp))]
  | none =>
    simp only
    rw[he x (by simp),IE (hi x (by simp)) hh (fun p hp=>he p (by simp[hp])) (fun p hp=>he p (by simp[hp]))]
 case makeFunc fn first captured =>
  cases fn with
  | func f =>
    simp only
    have:captured.toList.map st'.ev=captured.toList.map st.ev:=List.map_congr_left fun p hp=>he p (by simp;right;simpa using hp)
    rw[this]
  | _=>rfl
theorem IK {ops:Array Oper} {o:Oper} (Bv:mR ops o=0∨mR ops o=2) (he:∀p∈o.op.operands,st'.ev p=st.ev p) (hc:∀d,o.dst=some d→st'.aO d=st.aO d) :
 cZ P call o st'=cZ P call o st:=by
 obtain⟨dst,op,type,pos,after,guard⟩:=o
 cases op<;>simp only[cZ,iQ,Op.operands,mR] at *
 case call c =>
  exfalso
  obtain⟨callee,args,tJ⟩:=c
  cases callee with
  | builtin b=>cases b<;>simp at Bv;split at Bv<;>simp at Bv
  | value f=>cases f<;>simp at Bv;split at Bv<;>(try split at Bv)<;>(try split at Bv)<;>simp at Bv
  | _=>simp at Bv
 case alloc T=>cases dst with
  | none=>rfl
  | some d=>simp only[cC,hc d rfl]
 case box T x=>cases dst with
  | none=>rfl
  | some d=>simp only[cC,hc d rfl,he x (by simp)]
 case buildSlice T n parts =>
  have Ai:∀p∈parts.toList,st'.ev p.2=st.ev p.2:=fun p hp=>he p.2 (by simp;exact⟨p.1,by simpa using hp⟩)
  rw[Ok Ai,Vr Ai];cases dst with
  | none=>rfl
  | some d=>simp only[cC,hc d rfl]
 case makeSlice T l c =>
  rw[he l (by simp),he c (by simp)]
  cases dst with
  | none=>rfl
  | some d=>simp only[cC,hc d rfl]
 case makeMap T r =>
  cases r with
  | none=>cases dst with
    | none=>rfl
    | some d=>simp only[cC,hc d rfl]
  | some r=>rfl
 case mapUpdate T m x y=>simp at Bv
 case lookup T m x ok=>simp at Bv
 case store T x y=>simp at Bv
 case move x=>rw[he x (by simp)]
 case assign x=>rw[he x (by simp)]
 case pick c x y=>rw[he c (by simp),he x (by simp),he y (by simp)]
 case binOp op T x y yT=>rw[he x (by simp),he y (by simp)]
 case unOp op T x=>rw[he x (by simp)]
 case convert s d x=>rw[he x (by simp)]
 case nilCheck x=>rw[he x (by simp)]
 case field T x f=>rw[he x (by simp)]
 case fieldAddr T x f=>rw[he x (by simp)]
 case indexAddr T x i=>simp at Bv
 case load T x=>simp at Bv
 case extract t i=>rw[he t (by simp)]
 case build T parts =>
  have Ai:∀p∈parts.toList,st'.ev p.2=st.ev p.2:=fun p hp=>he p.2 (by simp;exact⟨p.1,by simpa using hp⟩)
  unfold iV;rw[Ok Ai,Vr Ai]
 case slice T x lo Cn mx=>simp at Bv
 case makeFunc fn first captured =>
  cases fn with
  | func f =>
    simp only
    have:captured.toList.map st'.ev=captured.toList.map st.ev:=List.map_congr_left fun p hp=>he p (by simp;right;simpa using hp)
    rw[this]
  | _=>rfl
end
end Go.Ab
end
section
namespace Go.Ab
open Classical
section
variable {P:Program} {call:Nat→List AV→Option AV} {st st':St} {ops:Array Oper}
theorem Ol {r:AV} {dst:Option Nat} {e:mT} (h:iM r st dst=some e):e.dst=dst∧e.dM=none∧∀d x,e.new=some (d,x)→dst=some d:=by
 unfold iM at h;split at h
 ·simp only[Option.some.injEq] at h;subst h;exact⟨rfl,rfl,fun d x h=>by simp at h⟩
 ·cases dst with
  | none=>cases h
  | some d=>simp only[Option.some.injEq] at h;subst h;exact⟨rfl,rfl,fun d x h=>by simp at h;rw[h.1]⟩
theorem yJ {g:Nat} {args:List AV} {dst:Option Nat} {e:mT} (h:aN call g args st dst=some e):e.dst=dst∧e.dM=none∧∀d x,e.new=some (d,x)→dst=some d:=by
 unfold aN at h;split at h
 ·cases hc:call g args with
  | none=>simp[hc,cC] at h
  | some r=>simp only[hc,cC] at h;exact Ol h
 ·split at h
  ·rename_i xs _;cases hc:call g xs with
   | none=>simp[hc,cC] at h
   | some r =>
     simp only[hc,cC] at h;split at h
     ·exact Ol h
     ·cases h
  ·cases h
theorem Om {g:Nat} {args:List AV} {dst:Option Nat} {e:mT} (h:jV call g args st dst=some e):e.dst=dst∧(∀d x,e.new=some (d,x)→dst=some d)∧∀s k x,e.dM=some (s,k,x)→args.head? = some (.own s k):=by
 unfold jV at h;split at h
 ·split at h
  ·split at h
   ·split at h
    ·cases dst with
     | none=>cases h
     | some d =>
       simp only[Option.some.injEq] at h;subst h;exact⟨rfl,fun d x h=>by simp at h;rw[h.1],fun s k x h=>by simp at h;simp[h.1,h.2.1]⟩
    ·simp only[Option.some.injEq] at h;subst h;exact⟨rfl,fun d x h=>by simp at h,fun s k x h=>by simp at h;simp[h.1,h.2.1]⟩
    ·cases h
   ·cases h
  ·cases h
 ·split at h
  ·obtain⟨h1,h2,h3⟩:=yJ h
   exact⟨h1,h3,fun s k x h=>by rw[h2] at h;cases h⟩
  ·cases h
theorem CH {g:Nat} {args:List AV} {dst:Option Nat} {e:mT} (h:fC call g args st dst=some e):e.dst=dst∧(∀d x,e.new=some (d,x)→dst=some d)∧∀s k x,e.dM=some (s,k,x)→∃y∈args,y=.own s k∨∃cs,y=.agg cs∧.own s k∈cs:=by
 unfold fC at h;split at h
 ·rename_i s k hk;split at h
  ·split at h
   ·rename_i xs _;cases hc:call g xs with
    | none=>simp[hc,cC] at h
    | some r =>
      simp only[hc,cC] at h;have hu:e.dM=some (s,k,none)∧e.dst=dst∧∀d x,e.new=some (d,x)→dst=some d:=by
       rcases Oj h with ⟨_,rfl⟩|⟨_,e1,sz,n,cs,d,rfl,rfl,_,rfl⟩
       ·exact⟨rfl,rfl,fun d x h=>by simp at h⟩
       ·exact⟨rfl,rfl,fun d x h=>by simp at h;rw[h.1]⟩
      ·refine⟨hu.2.1,hu.2.2,fun s' k' x h=>?_⟩
       rw[hu.1] at h;simp only[Option.some.injEq,Prod.mk.injEq] at h;obtain⟨rfl,rfl,_⟩:=h
       have hm:(s,k)∈args.flatMap iW:=by rw[hk];simp
       obtain⟨y,hy,hyk⟩:=List.mem_flatMap.1 hm
       refine⟨y,hy, ?_⟩
       have key:∀c,(s,k)∈gF c→c=.own s k:=fun c hc=>by
        cases c<;>simp[gF] at hc
        obtain⟨rfl,rfl⟩:=hc
        rfl
       cases y with
       | agg cs =>
         obtain⟨c,hc,hck⟩:=List.mem_flatMap.1 (show (s,k)∈cs.flatMap gF from hyk)
         exact .inr ⟨cs,rfl,by rw[← key c hck];exact hc⟩
       | own a b=>exact .inl (key _ hyk)
       | _=>simp[iW,gF] at hyk
   ·cases h
  ·cases h
 ·obtain⟨h1,h2,h3⟩:=yJ h
  exact⟨h1,h3,fun s k x h=>by rw[h2] at h;cases h⟩
theorem oM (e:mT) (t:Nat):(e.apply st).env t=if e.dst=some t then e.val else st.env t:=by
 have h2:∀(s1:St),(s1.put e.dst e.val).env t=if e.dst=some t then e.val else s1.env t:=fun s1=>by
  cases hd:e.dst with
  | none=>simp[St.put]
  | some d =>
    simp only[St.put,Option.some.injEq];by_cases h:t=d
    ·subst h;simp
    ·rw[if_neg h,if_neg (fun h'=>h h'.symm)]
 unfold mT.apply;rw[h2];cases e.dM<;>cases e.new<;>rfl
theorem lM (e:mT) (s:Nat):(e.apply st).aO s=match e.new with
 | some (d,es)=>if s=d then st.aO d+es.length else st.aO s
 | none=>st.aO s:=by
 unfold mT.apply;rw[YL];cases e.dM<;>cases e.new<;>rfl
theorem tK (e:mT) (s g:Nat):(e.apply st).heap s g=match e.new with
 | some (d,es)=>if s=d∧st.aO d≤g∧g-st.aO d<es.length then es[g-st.aO d]? else (match e.dM with
   | some (s0,g0,y)=>if s=s0∧g=g0 then y else st.heap s g
   | none=>st.heap s g)
 | none=>(match e.dM with
   | some (s0,g0,y)=>if s=s0∧g=g0 then y else st.heap s g
   | none=>st.heap s g):=by
 unfold mT.apply;rw[Wb];cases e.dM<;>cases e.new<;>rfl
theorem aAE {o:Oper} (h:∀j want d,o.guard=some (j,want)→(ops[j]?).bind (·.dst)=some d→st'.env d=st.env d):gv ops st' o.guard=gv ops st o.guard:=by
 unfold gv;cases hg:o.guard with
 | none=>rfl
 | some jw =>
   obtain⟨j,want⟩:=jw
   simp only
   cases hd:(ops[j]?).bind (·.dst) with
   | none=>rfl
   | some d=>simp only[h j want d hg hd]
theorem aAF {a b:St} (h1:a.env=b.env) (h2:a.heap=b.heap) (h3:a.aO=b.aO):a=b:=by
 cases a;cases b;simp_all
theorem Yv {T:Nat} {p x:AV} {u:Nat × Nat × jI × Nat} (h:kJ P st T p x=some u):∃n,p=.vw u.1 u.2.1 0 n:=by
 unfold kJ at h;split at h
 ·split at h
  ·split at h
   ·simp only[Option.some.injEq] at h;subst h;exact⟨_,rfl⟩
   ·cases h
  ·cases h
 ·cases h
theorem G5 {T:Nat} {p:AV} {u:Nat × Nat × jI} (h:uB P st T p=some (some u)):∃o n,p=.vw u.1 u.2.1 o n:=by
 unfold uB at h;split at h
 ·split at h
  ·split at h
   ·simp only[Option.some.injEq] at h;subst h;exact⟨_,_,rfl⟩
   ·cases h
  ·cases h
 ·simp at h
 ·simp at h
 ·cases h
variable [Ext]
theorem PC {o:Oper} {e:mT} (h:cZ P call o st=some e) :
 e.dst=o.dst∧(∀d x,e.new=some (d,x)→o.dst=some d)∧(∀s g x,e.dM=some (s,g,x)→mR ops o=3∧∃p∈o.op.operands,(∃off,st.ev p=.ptr s g off)∨st.ev p=.own s g∨st.ev p=.mp s g∨(∃cs,st.ev p=.agg cs∧.own s g∈cs)∨∃o n,st.ev p=.vw s g o n):=by
 obtain⟨dst,op,type,pos,after,guard⟩:=o
 have val:∀x:Option AV,(x.map fun y=>({ dst:=dst,val:=y }:mT))=some e→e.dst=dst∧(∀d x,e.new=some (d,x)→dst=some d)∧(∀s g x,e.dM≠some (s,g,x)):=fun x h=>by
  cases x with
  | none=>simp at h
  | some y=>simp at h;subst h;exact⟨rfl,fun d x h=>by simp at h,fun s g x h=>by simp at h⟩
 cases op
 case call c =>
  simp only[cZ] at h;unfold gP at h;split at h
  ·rename_i f hc;unfold mQ at h;split at h
   ·rename_i g;split at h
    ·rename_i hmv;obtain⟨h1,h2,h3⟩:=Om h
     refine⟨h1,h2,fun s k x hu=>?_⟩
     have hh:=h3 s k x hu
     obtain⟨callee,args,tJ⟩:=c
     simp only at hc hh
     subst hc;cases hl:args.toList with
     | nil=>rw[hl] at hh;simp at hh
     | cons p ps =>
       rw[hl] at hh;simp only[List.map_cons,List.head?_cons,Option.some.injEq] at hh;refine⟨?_,p, ?_,.inr (.inl hh)⟩
       ·simp only[mR,hl,hmv];cases p with
        | const v=>simp[St.ev] at hh
        | _=>simp
       simp only[Op.operands,Call.operands];simp
       right
       rw[← Array.mem_toList_iff,hl];simp
    ·split at h
     ·rename_i heat;obtain⟨h1,h2,h3⟩:=CH h
      refine⟨h1,h2,fun s k x hu=>?_⟩
      obtain⟨y,hy,hyo⟩:=h3 s k x hu
      obtain⟨callee,args,tJ⟩:=c
      simp only at hc hy
      subst hc;refine⟨by simp[mR,heat], ?_⟩
      obtain⟨p,hp,rfl⟩:=List.mem_map.1 hy
      refine⟨p, ?_, ?_⟩
      ·simp only[Op.operands,Call.operands];simp
       right
       simpa using hp
      ·rcases hyo with h|⟨cs,h,hm⟩
       ·exact .inr (.inl h)
       ·exact .inr (.inr (.inr (.inl ⟨cs,h,hm⟩)))
     ·obtain⟨h1,h2,h3⟩:=yJ h
      exact⟨h1,h3,fun s g x h=>by rw[h2] at h;cases h⟩
   ·split at h
    ·obtain⟨h1,h2,h3⟩:=yJ h
     exact⟨h1,h3,fun s g x h=>by rw[h2] at h;cases h⟩
    ·cases h
  ·split at h
   ·split at h
    ·simp only[Option.some.injEq] at h;subst h;exact⟨rfl,fun d x h=>by simp at h,fun s g x h=>by simp at h⟩
    ·cases h
   ·cases h
  ·split at h
   ·split at h
    ·simp only[Option.some.injEq] at h;subst h;exact⟨rfl,fun d x h=>by simp at h,fun s g x h=>by simp at h⟩
    ·cases h
   ·cases h
  ·split at h
   ·split at h
    ·simp only[Option.some.injEq] at h;subst h;exact⟨rfl,fun d x h=>by simp at h,fun s g x h=>by simp at h⟩
    ·cases h
   ·cases h
  ·rename_i hc;cases dst with
   | none=>simp[cC] at h
   | some d =>
     simp only[cC] at h;split at h
     ·rename_i s x T T' hx hT
      split at h
      ·split at h
       ·cases nM:kJ P st T (st.ev s) (st.ev x) with
        | none=>simp[nM] at h
        | some u =>
        simp only[nM,Option.map_some,Option.some.injEq] at h;subst h;refine⟨rfl,nofun,fun s' g' x' hu=>?_⟩
        simp only[Option.some.injEq,Prod.mk.injEq] at hu;obtain⟨rfl,rfl,rfl⟩:=hu
        obtain⟨n0,zW⟩:=Yv nM
        refine⟨?_,s, ?_,.inr (.inr (.inr (.inr ⟨0,n0,zW⟩)))⟩
        ·obtain⟨callee,args,tJ⟩:=c
         simp only at hc hx
         subst hc;simp only[mR,hx];cases s with
         | const v =>
           simp[St.ev] at zW
         | _=>rfl
        ·simp only[Op.operands,Call.operands,hc];simp
         rw[← Array.mem_toList_iff,hx];simp
       split at h
       ·simp only[Option.some.injEq] at h;subst h;exact⟨rfl,nofun,nofun⟩
       cases nM:dC P st T (st.ev s) (st.ev x) with
       | none=>simp[nM] at h
       | some ur =>
         obtain⟨u,r⟩:=ur
         simp only[nM,Option.some.injEq] at h;subst h;refine⟨rfl,fun d x h=>by simp at h;rw[h.1],fun s' g' x' hu=>?_⟩
         simp only[Option.map_eq_some_iff] at hu;obtain⟨⟨s2,g2⟩,hu1,hu2⟩:=hu
         simp only[Prod.mk.injEq] at hu2;obtain⟨rfl,rfl,rfl⟩:=hu2
         subst hu1;have zW:st.ev s=.own s2 g2:=by
          unfold dC at nM;split at nM
          ·split at nM
           ·split at nM
            ·split at nM
             ·split at nM<;>simp at nM
             ·rename_i s3 g3 hs3;split at nM
              ·split at nM
               ·simp only[Option.some.injEq,Prod.mk.injEq] at nM;obtain⟨⟨rfl,rfl⟩,_⟩:=nM
                exact hs3
               ·cases nM
              ·cases nM
             ·split at nM<;>simp at nM
             ·cases nM
            ·cases nM
           ·cases nM
          ·cases nM
         refine⟨?_,s, ?_,.inr (.inl zW)⟩
         ·obtain⟨callee,args,tJ⟩:=c
          simp only at hc hx
          subst hc;simp only[mR,hx];cases s with
          | const v =>
            simp[St.ev] at zW
          | _=>rfl
         ·simp only[Op.operands,Call.operands,hc];simp
          rw[← Array.mem_toList_iff,hx];simp
      ·cases h
     ·cases h
  ·rename_i hc;split at h
   ·rename_i x T hx hT;cases nM:uB P st T (st.ev x) with
    | none=>simp[nM] at h
    | some u =>
      simp only[nM,Option.map_some,Option.some.injEq] at h;subst h;refine⟨rfl,nofun,fun s' g' x' hu=>?_⟩
      simp only[Option.map_eq_some_iff,Prod.mk.injEq] at hu;obtain⟨p,rfl,rfl,rfl,_⟩:=hu
      obtain⟨o,n,zW⟩:=G5 nM
      refine⟨?_,x, ?_,.inr (.inr (.inr (.inr ⟨o,n,zW⟩)))⟩
      ·obtain⟨callee,args,tJ⟩:=c
       simp only at hc
       subst hc;rfl
      ·simp only[Op.operands,Call.operands,hc];simp
       rw[← Array.mem_toList_iff,hx];simp
   ·cases h
  ·cases h
 case store T x y =>
  simp only[cZ] at h;cases hs:pX P st T (st.ev x) (st.ev y) with
  | none=>simp[hs] at h
  | some u =>
    obtain⟨s,g,e'⟩:=u
    simp only[hs,Option.map_some,Option.some.injEq] at h;subst h;refine⟨rfl,fun d x h=>by simp at h,fun s' g' x' hu=>⟨rfl,x,by simp[Op.operands],.inl ?_⟩⟩
    simp only[Option.some.injEq,Prod.mk.injEq] at hu;obtain⟨rfl,rfl,_⟩:=hu
    unfold pX at hs;split at hs
    ·rename_i s1 g1 o1 hp;refine⟨o1, ?_⟩
     rw[hp];split at hs
     ·split at hs
      ·split at hs
       ·split at hs
        ·simp only[Option.some.injEq,Prod.mk.injEq] at hs;rw[hs.1,hs.2.1]
        ·cases hs
       ·split at hs
        ·simp only[Option.some.injEq,Prod.mk.injEq] at hs;rw[hs.1,hs.2.1]
        ·cases hs
       ·cases hs
      ·cases hs
     ·cases hs
    ·cases hs
 case alloc T =>
  simp only[cZ] at h;cases dst with
  | none=>simp[cC] at h
  | some d=>cases hz:dX P T with
    | none=>simp[hz,cC] at h
    | some z=>simp only[hz,cC,Option.some.injEq] at h;subst h;exact⟨rfl,fun d x h=>by simp at h;rw[h.1],fun s g x h=>by simp at h⟩
 case box T x =>
  simp only[cZ] at h;cases dst with
  | none=>simp[cC] at h
  | some d =>
    simp only[cC] at h;split at h
    ·simp only[Option.some.injEq] at h;subst h;exact⟨rfl,fun d x h=>by simp at h;rw[h.1],fun s g x h=>by simp at h⟩
    ·cases h
 case buildSlice T n parts =>
  simp only[cZ] at h;cases dst with
  | none=>simp[cC] at h
  | some d=>cases hs:dN P T with
    | none=>simp[hs,cC] at h
    | some t=>cases hz:dX P t.1 with
      | none=>simp[hs,hz,cC] at h
      | some z =>
        simp only[hs,hz,cC] at h;split at h
        ·cases hf:gN (fun i=>some (i * t.2.1,t.2.1)) ((List.range n).flatMap fun _=>z.map .v) (parts.toList.map fun p=>(p.1,st.ev p.2)) with
         | none=>simp[hf] at h
         | some cs=>simp only[hf,Option.some.injEq] at h;subst h;exact⟨rfl,fun d x h=>by simp at h;rw[h.1],fun s g x h=>by simp at h⟩
        ·cases h
 case makeSlice T l c =>
  simp only[cZ] at h;cases dst with
  | none=>simp[cC] at h
  | some d=>cases hs:dN P T with
    | none=>simp[hs,cC] at h
    | some t=>cases hz:dX P t.1 with
      | none=>simp[hs,hz,cC] at h
      | some z =>
        simp only[hs,hz,cC] at h;split at h
        ·split at h
         ·simp only[Option.some.injEq] at h;subst h;exact⟨rfl,fun d x h=>by simp at h;rw[h.1],fun s g x h=>by simp at h⟩
         ·cases h
        ·cases h
 case makeMap T r =>
  cases r with
  | none =>
    simp only[cZ] at h;cases dst with
    | none=>simp[cC] at h
    | some d=>simp only[cC,Option.some.injEq] at h;subst h;exact⟨rfl,fun d x h=>by simp at h;rw[h.1],fun s g x h=>by simp at h⟩
  | some r =>
    simp only[cZ] at h;obtain⟨h1,h2,h3⟩:=val _ h
    exact⟨h1,h2,fun s g x hu=>absurd hu (h3 s g x)⟩
 case mapUpdate T m x y =>
  simp only[cZ] at h;cases hs:uA P st T (st.ev m) (st.ev x) (st.ev y) with
  | none=>simp[hs] at h
  | some u =>
    obtain⟨s,g,e'⟩:=u
    simp only[hs,Option.map_some,Option.some.injEq] at h;subst h;refine⟨rfl,fun d x h=>by simp at h,fun s' g' x' hu=>⟨rfl,m,by simp[Op.operands],.inr (.inr (.inl ?_))⟩⟩
    simp only[Option.some.injEq,Prod.mk.injEq] at hu;obtain⟨rfl,rfl,_⟩:=hu
    unfold uA at hs;split at hs
    ·rename_i s1 g1 hp;rw[hp];split at hs
     ·split at hs
      ·simp only[Option.some.injEq,Prod.mk.injEq] at hs;rw[hs.1,hs.2.1]
      ·cases hs
     ·cases hs
    ·cases hs
 all_goals
  simp only[cZ] at h;obtain⟨h1,h2,h3⟩:=val _ h
  exact⟨h1,h2,fun s g x hu=>absurd hu (h3 s g x)⟩
noncomputable def sD (P:Program) (call:Nat→List AV→Option AV) (ops:Array Oper) (o:Oper) (st:St):Option mT :=
 match gv ops st o.guard with
 | some b=>if b=true then cZ P call o st else some { dst:=o.dst,val:=.v undef }
 | none=>none
theorem Fb (o:Oper):cE P call ops o st=(sD P call ops o st).map fun e=>e.apply st:=by
 unfold cE sD;cases gv ops st o.guard with
 | none=>rfl
 | some b=>cases b<;>rfl
theorem oX {o:Oper} {e:mT} (h:sD P call ops o st=some e) :
 e.dst=o.dst∧(∀d x,e.new=some (d,x)→o.dst=some d)∧(∀s g x,e.dM=some (s,g,x)→mR ops o=3∧∃p∈o.op.operands,(∃off,st.ev p=.ptr s g off)∨st.ev p=.own s g∨st.ev p=.mp s g∨(∃cs,st.ev p=.agg cs∧.own s g∈cs)∨∃o n,st.ev p=.vw s g o n):=by
 unfold sD at h;split at h
 ·split at h
  ·exact PC h
  ·simp only[Option.some.injEq] at h;subst h;exact⟨rfl,fun d x h=>by simp at h,fun s g x h=>by simp at h⟩
 ·cases h
theorem Tj (hp:CB st) {x y:Oper} {ex:mT} (nM:sV ops x y=true∨sV ops y x=true) (Ll:∀t,mN st.aO (st.env t)) (hx:sD P call ops x st=some ex) :
 sD P call ops y (ex.apply st)=sD P call ops y st:=by
 obtain⟨sd,sn,su⟩:=oX hx
 have o7:(∀d,x.dst=some d→d ∉ y.looksAt ops)∧(∀d,x.dst=some d→y.dst≠some d):=by
  rcases nM with h|h
  ·simp only[sV,Bool.and_eq_true] at h;obtain⟨h1,h2,_⟩:=Oper.apart_spec h.1
   exact⟨h1,h2⟩
  ·simp only[sV,Bool.and_eq_true] at h;obtain⟨_,h2,h3⟩:=Oper.apart_spec h.1
   exact⟨h3,fun d hd hy=>h2 d hy hd⟩
 have henv:∀t,t∈y.looksAt ops→(ex.apply st).env t=st.env t:=fun t ht=>by
  rw[oM,if_neg];intro h;rw[sd] at h;exact o7.1 t h ht
 have BG:∀p∈y.op.operands,(ex.apply st).ev p=st.ev p:=fun p hp=>by
  cases p with
  | tmp t=>exact henv t (by unfold Oper.looksAt;exact List.mem_append_left _ (List.mem_filterMap.2 ⟨.tmp t,by simpa using hp,rfl⟩))
  | _=>rfl
 have hgv:gv ops (ex.apply st) y.guard=gv ops st y.guard:=aAE fun j want d hg hd=>henv d (by
  unfold Oper.looksAt;apply List.mem_append_right
  rw[hg];simp[hd])
 have hcnt:∀d,y.dst=some d→(ex.apply st).aO d=st.aO d:=fun d hd=>by
  rw[lM];split
  ·rename_i d' z hn
   have:=sn d' z hn
   rw[if_neg];rintro rfl
   exact o7.2 d this hd
  ·rfl
 have Ui:∀p∈y.op.operands,mN st.aO (st.ev p):=fun p hp=>by
  cases p with
  | tmp t=>exact Ll t
  | const v=>exact⟨⟨fun _ _=>False,fun _ _=>undef,st.aO⟩,v,rfl,.v v⟩
  | global g=>exact⟨⟨fun _ _=>False,fun _ _=>undef,st.aO⟩,_,rfl,.v _⟩
  | func f=>exact⟨⟨fun _ _=>False,fun _ _=>undef,st.aO⟩,_,rfl,.v _⟩
 have qL:cZ P call y (ex.apply st)=cZ P call y st:=by
  by_cases h3:mR ops x=3
  ·refine IK (ops:=ops) ?_ BG hcnt
   have hle:mR ops y=0∨mR ops y=1∨mR ops y=2∨mR ops y=3∨mR ops y=4:=by
    unfold mR;split<;>(try split)<;>(try split)<;>(try split)<;>simp
   rcases nM with h|h<;>simp only[sV,Bool.and_eq_true,h3] at h<;>rcases hle with e|e|e|e|e<;>simp[e] at h ⊢
  ·have hnu:ex.dM=none:=by
    cases hu:ex.dM with
    | none=>rfl
    | some sgx=>exact absurd (su sgx.1 sgx.2.1 sgx.2.2 hu).1 h3
   refine PB hp BG Ui (fun s g aZ=>?_) hcnt
   rw[tK,hnu];split
   ·rename_i d z hn;rw[if_neg];rintro⟨rfl,h,_⟩
    omega
   ·rfl
 unfold sD;rw[hgv,qL]
theorem IL {o:Oper} {e:mT} {s g:Nat} {z:Option jI} (Ll:∀t,mN st.aO (st.env t)) (h:sD P call ops o st=some e) (hu:e.dM=some (s,g,z)):g<st.aO s:=by
 obtain⟨_,_,su⟩:=oX h
 obtain⟨_,p,hp,hv⟩:=su s g z hu
 have Ui:mN st.aO (st.ev p):=by
  cases p with
  | tmp t=>exact Ll t
  | const v=>exact⟨⟨fun _ _=>False,fun _ _=>undef,st.aO⟩,v,rfl,.v v⟩
  | global g=>exact⟨⟨fun _ _=>False,fun _ _=>undef,st.aO⟩,_,rfl,.v _⟩
  | func f=>exact⟨⟨fun _ _=>False,fun _ _=>undef,st.aO⟩,_,rfl,.v _⟩
 rcases hv with ⟨off,hv⟩|hv|hv|⟨cs,hv,hm⟩|⟨o,n,hv⟩
 ·rw[hv] at Ui;exact Ui.ptr
 ·rw[hv] at Ui;exact Ui.own
 ·rw[hv] at Ui;exact Ui.mp
 ·rw[hv] at Ui;exact (Ui.agg _ hm).own
 ·rw[hv] at Ui;exact Ui.vw
theorem aDS (hp:CB st) {x y:Oper} (nM:sV ops x y=true) (Ll:∀t,mN st.aO (st.env t)) {s1 s2:St} (hx:cE P call ops x st=some s1) (hy:cE P call ops y s1=some s2) :
 ∃s3,cE P call ops y st=some s3∧cE P call ops x s3=some s2:=by
 rw[Fb] at hx hy;cases hex:sD P call ops x st with
 | none=>simp[hex] at hx
 | some ex =>
   simp only[hex,Option.map_some,Option.some.injEq] at hx;subst hx;rw[Tj hp (.inl nM) Ll hex] at hy;cases o8:sD P call ops y st with
   | none=>simp[o8] at hy
   | some ey =>
     simp only[o8,Option.map_some,Option.some.injEq] at hy;subst hy;refine⟨ey.apply st,by rw[Fb,o8];rfl, ?_⟩
     rw[Fb,Tj hp (.inr nM) Ll o8,hex];simp only[Option.map_some,Option.some.injEq];obtain⟨dx,nx,ux⟩:=oX hex
     obtain⟨dy,ny,uy⟩:=oX o8
     have hd:∀d,x.dst=some d→y.dst≠some d:=by
      simp only[sV,Bool.and_eq_true] at nM;exact (Oper.apart_spec nM.1).2.1
     have Bv:¬(ex.dM≠none∧ey.dM≠none):=by
      rintro⟨h1,h2⟩
      cases hu:ex.dM with
      | none=>exact h1 hu
      | some a=>cases hv:ey.dM with
        | none=>exact h2 hv
        | some b =>
          have e1:=(ux a.1 a.2.1 a.2.2 hu).1
          have e2:=(uy b.1 b.2.1 b.2.2 hv).1
          simp[sV,e1,e2] at nM
     apply aAF
     ·funext t
      rw[oM,oM,oM,oM,dx,dy];by_cases h1:x.dst=some t
      ·rw[if_pos h1,if_pos h1,if_neg (hd t h1)]
      ·rw[if_neg h1,if_neg h1]
     ·funext s g
      rw[tK,tK,tK,tK];have cx:∀d z,ey.new=some (d,z)→(ex.apply st).aO d=st.aO d:=fun d z hn=>by
       rw[lM];split
       ·rename_i d' z' Is
        rw[if_neg];rintro rfl
        exact hd _ (nx _ _ Is) (ny _ _ hn)
       ·rfl
      have cy:∀d z,ex.new=some (d,z)→(ey.apply st).aO d=st.aO d:=fun d z hn=>by
       rw[lM];split
       ·rename_i d' z' Is
        rw[if_neg];rintro rfl
        exact hd _ (nx _ _ hn) (ny _ _ Is)
       ·rfl
      cases G6:ex.new with
      | none =>
        cases TA:ey.new with
        | none =>
          cases hux:ex.dM with
          | none=>rfl
          | some a=>cases huy:ey.dM with
            | none=>rfl
            | some b=>exact absurd ⟨by rw[hux];simp,by rw[huy];simp⟩ Bv
        | some b =>
          obtain⟨d,z⟩:=b
          simp only[cx d z TA];cases hux:ex.dM with
          | none=>rfl
          | some a =>
            obtain⟨s0,g0,e0⟩:=a
            have aZ:=IL Ll hex hux
            cases huy:ey.dM with
            | none =>
              simp only
              by_cases h1:s=d∧st.aO d≤g∧g-st.aO d<z.length
              ·rw[if_neg (by obtain⟨rfl,ha,hb⟩:=h1;rintro⟨rfl,rfl⟩;omega),if_pos h1,if_pos h1]
              ·rw[if_neg h1,if_neg h1]
            | some b=>exact absurd ⟨by rw[hux];simp,by rw[huy];simp⟩ Bv
      | some a =>
        obtain⟨d,z⟩:=a
        cases TA:ey.new with
        | none =>
          simp only[cy d z G6];cases huy:ey.dM with
          | none=>rfl
          | some a =>
            obtain⟨s0,g0,e0⟩:=a
            have aZ:=IL Ll o8 huy
            cases hux:ex.dM with
            | none =>
              simp only
              by_cases h1:s=d∧st.aO d≤g∧g-st.aO d<z.length
              ·rw[if_pos h1,if_neg (by obtain⟨rfl,ha,hb⟩:=h1;rintro⟨rfl,rfl⟩;omega),if_pos h1]
              ·rw[if_neg h1,if_neg h1]
            | some b=>exact absurd ⟨by rw[hux];simp,by rw[huy];simp⟩ Bv
        | some b =>
          obtain⟨d',z'⟩:=b
          simp only[cy d z G6,cx d' z' TA];have G7:d≠d':=by
           rintro rfl
           exact hd _ (nx _ _ G6) (ny _ _ TA)
          cases hux:ex.dM with
          | none =>
            cases huy:ey.dM with
            | none =>
              simp only
              by_cases h1:s=d∧st.aO d≤g∧g-st.aO d<z.length
              ·rw[if_pos h1,if_pos h1,if_neg (fun h=>G7 (h1.1.symm.trans h.1))]
              ·rw[if_neg h1,if_neg h1]
            | some b =>
              obtain⟨s0,g0,e0⟩:=b
              have aZ:=IL Ll o8 huy
              simp only
              by_cases h1:s=d∧st.aO d≤g∧g-st.aO d<z.length
              ·rw[if_pos h1,if_pos h1,if_neg (fun h=>G7 (h1.1.symm.trans h.1)),if_neg (by obtain⟨rfl,ha,hb⟩:=h1;rintro⟨rfl,rfl⟩;omega)]
              ·rw[if_neg h1,if_neg h1]
          | some a =>
            obtain⟨s0,g0,e0⟩:=a
            have aZ:=IL Ll hex hux
            cases huy:ey.dM with
            | none =>
              simp only
              by_cases h1:s=d∧st.aO d≤g∧g-st.aO d<z.length
              ·rw[if_pos h1,if_pos h1,if_neg (fun h=>G7 (h1.1.symm.trans h.1))]
              ·rw[if_neg h1,if_neg h1];by_cases h2:s=d'∧st.aO d'≤g∧g-st.aO d'<z'.length
               ·rw[if_pos h2,if_neg (by obtain⟨rfl,ha,hb⟩:=h2;rintro⟨rfl,rfl⟩;omega),if_pos h2]
               ·rw[if_neg h2,if_neg h2]
            | some b=>exact absurd ⟨by rw[hux];simp,by rw[huy];simp⟩ Bv
     ·funext s
      cases G6:ex.new with
      | none=>cases TA:ey.new<;>simp only[lM,G6,TA]
      | some a =>
        obtain⟨d,z⟩:=a
        cases TA:ey.new with
        | none=>simp only[lM,G6,TA]
        | some b =>
          obtain⟨d',z'⟩:=b
          have G7:d≠d':=by
           rintro rfl
           exact hd _ (nx _ _ G6) (ny _ _ TA)
          simp only[lM,G6,TA];rw[if_neg G7,if_neg (Ne.symm G7)];by_cases h1:s=d
          ·subst h1;rw[if_neg G7,if_pos rfl,if_neg G7]
          ·rw[if_neg h1,if_neg h1]
def Hv (st st':St) (x:AV):Prop:=∀s g,keyOf x=some (some (s,g))→st'.heap s g=st.heap s g
theorem VX {x:AV} (h:Hv st st' x):qQ st' x=qQ st x:=by
 cases x<;>simp only[qQ]
 rw[h _ _ rfl]
theorem wO {x:AV} (h:Hv st st' x):aQ st' x=aQ st x:=by
 cases x
 case own=>simp only[aQ,h _ _ rfl]
 case vw=>simp only[aQ,h _ _ rfl]
 case v y =>
  cases y
  case slice p n c=>cases p<;>cases n<;>cases c<;>rfl
  all_goals rfl
 all_goals rfl
theorem Yw {T:Nat} {x i:AV} (h:Hv st st' x):bD P st' T x i=bD P st T x i:=by
 unfold bD;cases x<;>try rfl
 simp only[h _ _ rfl]
theorem VY {T:Nat} {x y:AV} (h:Hv st st' x):pX P st' T x y=pX P st T x y:=by
 unfold pX;cases x<;>try rfl
 simp only[h _ _ rfl]
theorem VZ {T:Nat} {x:AV} {lo hi:Option Operand} (hx:Hv st st' x) (hl:∀p,lo=some p→st'.ev p=st.ev p) (Cn:∀p,hi=some p→st'.ev p=st.ev p):cS P st' T x lo hi=cS P st T x lo hi :=
 Yt (fun s g h=>by
  rcases h with ⟨o,rfl⟩|rfl|⟨o,n,rfl⟩<;>exact hx _ _ rfl) hl Cn
theorem PD {T:Nat} {s x:AV} (hs:Hv st st' s) (hx:Hv st st' x):dC P st' T s x=dC P st T s x:=by
 unfold dC;rw[wO hx];cases s
 case own=>simp only[hs _ _ rfl]
 case v y =>
  cases y
  case slice p n c=>cases p<;>cases n<;>cases c<;>rfl
  all_goals rfl
 all_goals rfl
theorem PE {T:Nat} {s x:AV} (hs:Hv st st' s) (hx:Hv st st' x):kJ P st' T s x=kJ P st T s x:=by
 unfold kJ;rw[wO hx];cases dN P T with
 | none=>rfl
 | some t=>cases aQ st x with
   | none=>rfl
   | some mn =>
     cases s<;>try rfl
     case vw s g o n =>
      cases o with
      | zero=>simp only[hs _ _ rfl]
      | succ o=>rfl
theorem WA {r:AV} {dst:Option Nat} (hc:∀d,dst=some d→st'.aO d=st.aO d):iM r st' dst=iM r st dst:=by
 unfold iM;cases dst with
 | none=>rfl
 | some d=>simp only[hc d rfl]
theorem WB {g:Nat} {x:AV} {args:List AV} {dst:Option Nat} (hx:Hv st st' x) (hc:∀d,dst=some d→st'.aO d=st.aO d):jV call g (x :: args) st' dst=jV call g (x :: args) st dst:=by
 unfold jV;split
 ·rename_i s k rest heq;simp only[List.cons.injEq] at heq;obtain⟨rfl,rfl⟩:=heq
  rw[hx _ _ rfl];cases dst with
  | none=>rfl
  | some d=>simp only[hc d rfl]
 ·split
  ·rename_i hf;unfold aN;rw[if_pos hf,if_pos hf];have h2:∀r,iM r st' dst=iM r st dst:=fun r=>WA hc
   simp only[h2]
  ·rfl
theorem CI {o:Oper} {aS:List Nat} (h:gK o=some aS):o.guard=none:=by
 unfold gK at h;split at h
 ·cases h
 ·assumption
theorem IM {o:Oper} {aS:List Nat} (ha:gK o=some aS):sD P call ops o st=cZ P call o st:=by
 unfold sD;rw[CI ha];rfl
inductive Tk:Op→List Nat→Prop
 | load (T a:Nat):Tk (.load T (.tmp a)) [a]
 | store (T a:Nat) (x:Operand):Tk (.store T (.tmp a) x) [a]
 | indexAddr (T a:Nat) (x:Operand):Tk (.indexAddr T (.tmp a) x) [a]
 | slice (T a:Nat) (lo hi mx:Option Operand):Tk (.slice T (.tmp a) lo hi mx) [a]
 | len (a:Nat) (args:Array Operand) (tJ:Array Nat) (h:args.toList=[.tmp a]):Tk (.call ⟨.builtin .len,args,tJ⟩) [a]
 | append (a b:Nat) (args:Array Operand) (tJ:Array Nat) (h:args.toList=[.tmp a,.tmp b]):Tk (.call ⟨.builtin .append,args,tJ⟩) [a,b]
 | mv (g a:Nat) (r:List Operand) (args:Array Operand) (tJ:Array Nat) (h:args.toList=.tmp a :: r) (hg:Ext.mv g=true):Tk (.call ⟨.value (.func g),args,tJ⟩) [a]
theorem On {o:Oper} {aS:List Nat} (h:gK o=some aS):Tk o.op aS:=by
 unfold gK at h;split at h
 ·cases h
 ·split at h
  ·rename_i T a ho;simp only[Option.some.injEq] at h;subst h;rw[ho];exact .load T a
  ·rename_i T a x ho;simp only[Option.some.injEq] at h;subst h;rw[ho];exact .store T a x
  ·rename_i T a x ho;simp only[Option.some.injEq] at h;subst h;rw[ho];exact .indexAddr T a x
  ·rename_i T a lo hi mx ho;simp only[Option.some.injEq] at h;subst h;rw[ho];exact .slice T a lo hi mx
  ·rename_i args tJ ho;split at h
   ·rename_i a hl;simp only[Option.some.injEq] at h;subst h;rw[ho];exact .len a args tJ hl
   ·cases h
  ·rename_i args tJ ho;split at h
   ·rename_i a b hl;simp only[Option.some.injEq] at h;subst h;rw[ho];exact .append a b args tJ hl
   ·cases h
  ·rename_i g args tJ ho;split at h
   ·rename_i a r hl;split at h
    ·rename_i hg;simp only[Option.some.injEq] at h;subst h;rw[ho];exact .mv g a r args tJ hl hg
    ·cases h
   ·cases h
  ·cases h
theorem G8 {T s g:Nat} {p x:AV} {e':jI} (hs:pX P st T p x=some (s,g,e')):∃o,p=.ptr s g o:=by
 unfold pX at hs;split at hs
 ·rename_i s1 g1 o1;split at hs
  ·split at hs
   ·split at hs
    ·split at hs
     ·simp only[Option.some.injEq,Prod.mk.injEq] at hs;obtain⟨rfl,rfl,_⟩:=hs;exact⟨_,rfl⟩
     ·cases hs
    ·split at hs
     ·simp only[Option.some.injEq,Prod.mk.injEq] at hs;obtain⟨rfl,rfl,_⟩:=hs;exact⟨_,rfl⟩
     ·cases hs
    ·cases hs
   ·cases hs
  ·cases hs
 ·cases hs
theorem WC {T s g:Nat} {p x:AV} {r:jI} (nM:dC P st T p x=some (some (s,g),r)):p=.own s g:=by
 unfold dC at nM;split at nM
 ·split at nM
  ·split at nM
   ·split at nM
    ·split at nM<;>simp at nM
    ·rename_i s3 g3;split at nM
     ·split at nM
      ·simp only[Option.some.injEq,Prod.mk.injEq] at nM;obtain⟨⟨rfl,rfl⟩,_⟩:=nM
       rfl
      ·cases nM
     ·cases nM
    ·split at nM<;>simp at nM
    ·cases nM
   ·cases nM
  ·cases nM
 ·cases nM
theorem Ro {o:Oper} {aS:List Nat} {e:mT} (ha:gK o=some aS) (h:sD P call ops o st=some e) :
 ∀s g z,e.dM=some (s,g,z)→∃a∈aS,keyOf (st.env a)=some (some (s,g)):=by
 rw[IM ha] at h;have hk:=On ha
 clear ha
 obtain⟨dst,op,type,pos,after,guard⟩:=o
 have val:∀(v:Option AV),(v.map fun x=>({ dst:=dst,val:=x }:mT))=some e→e.dM=none:=fun v hv=>by
  cases v with
  | none=>cases hv
  | some v=>simp only[Option.map_some,Option.some.injEq] at hv;subst hv;rfl
 intro s g z hu;cases hk
 case load T a=>simp only[cZ] at h;rw[val _ h] at hu;cases hu
 case indexAddr T a x=>simp only[cZ] at h;rw[val _ h] at hu;cases hu
 case slice T a lo hi mx=>simp only[cZ] at h;rw[val _ h] at hu;cases hu
 case len a args tJ hl =>
  simp only[cZ,gP,hl] at h;split at h
  ·split at h
   ·simp only[Option.some.injEq] at h;subst h;cases hu
   ·cases h
  ·cases h
 case store T a x =>
  simp only[cZ] at h;cases hs:pX P st T (st.ev (.tmp a)) (st.ev x) with
  | none=>simp[hs] at h
  | some u =>
    obtain⟨s',g',e'⟩:=u
    simp only[hs,Option.map_some,Option.some.injEq] at h;subst h;simp only[Option.some.injEq,Prod.mk.injEq] at hu;obtain⟨rfl,rfl,_⟩:=hu
    obtain⟨o1,ho1⟩:=G8 hs
    exact⟨a,by simp,by rw[show st.env a=st.ev (.tmp a) from rfl,ho1];rfl⟩
 case append a b args tJ hl =>
  simp only[cZ,gP,hl] at h;cases dst with
  | none=>simp[cC] at h
  | some d =>
    simp only[cC] at h;split at h
    ·rename_i s0 x0 T T' heq _
     simp only[List.cons.injEq,and_true] at heq;obtain⟨rfl,rfl⟩:=heq
     split at h
     ·split at h
      ·cases nM:kJ P st T (st.ev (.tmp a)) (st.ev (.tmp b)) with
       | none=>simp[nM] at h
       | some u =>
       simp only[nM,Option.map_some,Option.some.injEq] at h;subst h;simp only[Option.some.injEq,Prod.mk.injEq] at hu;obtain⟨rfl,rfl,rfl⟩:=hu
       obtain⟨n0,zW⟩:=Yv nM
       exact⟨a,by simp,by rw[show st.env a=st.ev (.tmp a) from rfl,zW];rfl⟩
      split at h
      ·simp only[Option.some.injEq] at h;subst h;cases hu
      cases nM:dC P st T (st.ev (.tmp a)) (st.ev (.tmp b)) with
      | none=>simp[nM] at h
      | some ur =>
        obtain⟨u,r⟩:=ur
        simp only[nM,Option.some.injEq] at h;subst h;cases u with
        | none=>cases hu
        | some p =>
          simp only[Option.map_some,Option.some.injEq,Prod.mk.injEq] at hu;obtain⟨rfl,rfl,_⟩:=hu
          exact⟨a,by simp,by rw[show st.env a=st.ev (.tmp a) from rfl,WC nM];rfl⟩
     ·cases h
    ·cases h
 case mv g' a r args tJ hl hg =>
  simp only[cZ,gP,mQ] at h;rw[if_pos hg] at h;obtain⟨_,_,h3⟩:=Om h
  have:=h3 s g z hu
  rw[hl] at this;simp only[List.map_cons,List.head?_cons,Option.some.injEq,St.ev] at this;exact⟨a,by simp,by rw[this];rfl⟩
theorem mem_congr {o:Oper} {aS:List Nat} (ha:gK o=some aS) (BG:∀p∈o.op.operands,st'.ev p=st.ev p) (hh:∀a∈aS,Hv st st' (st.env a)) (hc:∀d,o.dst=some d→st'.aO d=st.aO d) :
 sD P call ops o st'=sD P call ops o st:=by
 rw[IM ha,IM ha];have hk:=On ha
 clear ha
 obtain⟨dst,op,type,pos,after,guard⟩:=o
 simp only at hk BG hc
 cases hk
 case load T a =>
  have h1:st'.env a=st.env a:=BG (.tmp a) (by simp[Op.operands])
  simp only[cZ,iQ,St.ev,h1,VX (hh a (by simp))]
 case store T a x =>
  have h1:st'.env a=st.env a:=BG (.tmp a) (by simp[Op.operands])
  have h2:=BG x (by simp[Op.operands])
  have h3:st'.ev (.tmp a)=st.ev (.tmp a):=h1
  simp only[cZ,h2,h3];rw[show st.ev (.tmp a)=st.env a from rfl,VY (hh a (by simp))]
 case indexAddr T a x =>
  have h1:st'.env a=st.env a:=BG (.tmp a) (by simp[Op.operands])
  have h2:=BG x (by simp[Op.operands])
  have h3:st'.ev (.tmp a)=st.ev (.tmp a):=h1
  simp only[cZ,iQ,h2,h3];rw[show st.ev (.tmp a)=st.env a from rfl,Yw (hh a (by simp))]
 case slice T a lo hi mx =>
  have h1:st'.env a=st.env a:=BG (.tmp a) (by simp[Op.operands])
  have h3:st'.ev (.tmp a)=st.ev (.tmp a):=h1
  have hl:∀p,lo=some p→st'.ev p=st.ev p:=fun p hp=>BG p (by subst hp;simp[Op.operands])
  have Cn:∀p,hi=some p→st'.ev p=st.ev p:=fun p hp=>BG p (by subst hp;simp[Op.operands])
  have hm:∀p,mx=some p→st'.ev p=st.ev p:=fun p hp=>BG p (by subst hp;simp[Op.operands])
  have hS:=VZ (P:=P) (T:=T) (hh a (by simp)) hl Cn
  cases mx with
  | none =>
    simp only[cZ,iQ,h3];rw[show st.ev (.tmp a)=st.env a from rfl,hS]
  | some m =>
    cases hi with
    | none=>rfl
    | some h =>
      simp only[cZ,iQ,h3];rw[Ti (fun s g hx=>hh a (by simp) s g (by rw[show st.env a=st.ev (.tmp a) from rfl,hx];rfl)) hl (Cn h rfl) (hm m rfl)]
 case len a args tJ hl =>
  have h1:st'.env a=st.env a:=BG (.tmp a) (by simp[Op.operands,Call.operands,← Array.mem_toList_iff,hl])
  have h3:st'.ev (.tmp a)=st.ev (.tmp a):=h1
  have hv:aQ st' (st'.ev (.tmp a))=aQ st (st.ev (.tmp a)):=by rw[h3];exact wO (hh a (by simp))
  simp only[cZ,gP,hl];cases tJ.toList with
  | nil=>rfl
  | cons T r=>cases r with
    | nil=>simp only[hv]
    | cons _ _=>rfl
 case append a b args tJ hl =>
  have h1:st'.ev (.tmp a)=st.ev (.tmp a):=BG (.tmp a) (by simp[Op.operands,Call.operands,← Array.mem_toList_iff,hl])
  have h2:st'.ev (.tmp b)=st.ev (.tmp b):=BG (.tmp b) (by simp[Op.operands,Call.operands,← Array.mem_toList_iff,hl])
  have hV:∀T,kJ P st' T (st.ev (.tmp a)) (st.ev (.tmp b))=kJ P st T (st.ev (.tmp a)) (st.ev (.tmp b)):=fun T=>PE (hh a (by simp)) (hh b (by simp))
  have hA:∀T,dC P st' T (st.ev (.tmp a)) (st.ev (.tmp b))=dC P st T (st.ev (.tmp a)) (st.ev (.tmp b)):=fun T=>PD (hh a (by simp)) (hh b (by simp))
  simp only[cZ,gP,hl];cases dst with
  | none=>rfl
  | some d =>
    simp only[cC,hc d rfl];cases tJ.toList with
    | nil=>rfl
    | cons T r=>cases r with
      | nil=>rfl
      | cons T' r'=>cases r' with
        | nil =>
          have hn:Br P st' T (st'.ev (.tmp a)) (st'.ev (.tmp b))=Br P st T (st.ev (.tmp a)) (st.ev (.tmp b)):=by
           have h3:aQ st' (st.ev (.tmp b))=aQ st (st.ev (.tmp b)):=wO (hh b (by simp))
           simp only[Br,h1,h2,h3]
          simp only[];rw[hn,h1,h2,hA,hV]
        | cons _ _=>rfl
 case mv g' a r args tJ hl hg =>
  have he:∀p∈args.toList,st'.ev p=st.ev p:=fun p hp=>BG p (by simp[Op.operands,Call.operands,← Array.mem_toList_iff,hp])
  have h1:args.toList.map st'.ev=args.toList.map st.ev:=List.map_congr_left he
  simp only[cZ,gP,mQ];rw[if_pos hg,if_pos hg,h1,hl];simp only[List.map_cons];exact WB (hh a (by simp)) hc
theorem aAH {x y:AV} (h:fF x y∨fF y x) {k k':Nat × Nat} (hx:keyOf x=some (some k)) (hy:keyOf y=some (some k')):k≠k':=by
 unfold fF at h;rw[hx,hy] at h;rcases h with h|h
 ·exact h
 ·exact fun e=>h e.symm
theorem aAI {aO:Nat→Nat} {x:AV} {s g:Nat} (h:mN aO x) (hk:keyOf x=some (some (s,g))):g<aO s:=by
 cases x<;>simp only[keyOf,Option.some.injEq,Prod.mk.injEq,reduceCtorEq] at hk
 ·obtain⟨rfl,rfl⟩:=hk;exact h.ptr
 ·obtain⟨rfl,rfl⟩:=hk;exact h.own
 ·obtain⟨rfl,rfl⟩:=hk;exact h.vw
theorem FP {x y:Oper} {aS bs:List Nat} {ex:mT} (Ll:∀t,mN st.aO (st.env t)) (hax:gK x=some aS) (hay:gK y=some bs) (o7:∀d,x.dst=some d→d ∉ y.looksAt ops) (lG:∀d,x.dst=some d→y.dst≠some d)
 (hf:∀a∈aS,∀b∈bs,fF (st.env a) (st.env b)∨fF (st.env b) (st.env a)) (hx:sD P call ops x st=some ex):sD P call ops y (ex.apply st)=sD P call ops y st:=by
 obtain⟨sd,sn,_⟩:=oX hx
 have su:=Ro hax hx
 refine mem_congr hay (fun p hp=>?_) (fun b hb s g hk=>?_) fun d hd=>?_
 ·cases p with
  | tmp t =>
    show (ex.apply st).env t=st.env t
    rw[oM,if_neg];intro h;rw[sd] at h;exact o7 t h (by unfold Oper.looksAt;exact List.mem_append_left _ (List.mem_filterMap.2 ⟨.tmp t,by simpa using hp,rfl⟩))
  | _=>rfl
 ·have aZ:=aAI (Ll b) hk
  have hupd:(match ex.dM with|some (s0,g0,y)=>if s=s0∧g=g0 then y else st.heap s g|none=>st.heap s g)=st.heap s g:=by
   cases hu:ex.dM with
   | none=>rfl
   | some u =>
     obtain⟨s0,g0,z⟩:=u
     obtain⟨a,ha,hka⟩:=su s0 g0 z hu
     simp only
     rw[if_neg];rintro⟨rfl,rfl⟩
     exact aAH (hf a ha b hb) hka hk rfl
  rw[tK];split
  ·rename_i d es hn;rw[if_neg (by rintro⟨rfl,h,_⟩;omega)]
   exact hupd
  ·exact hupd
 ·rw[lM];split
  ·rename_i d' z hn
   rw[if_neg];rintro rfl
   exact lG _ (sn _ _ hn) hd
  ·rfl
theorem aAJ {α:Type} {A B C D:Prop} [Decidable A] [Decidable B] [Decidable C] [Decidable D] {na nb uc ud h:α} (h1:A→¬B) (h2:A→¬D) (h3:C→¬B) (h4:C→¬D) :
 (if B then nb else if D then ud else if A then na else if C then uc else h)=(if A then na else if C then uc else if B then nb else if D then ud else h):=by
 by_cases a:A
 ·rw[if_neg (h1 a),if_neg (h2 a),if_pos a,if_pos a]
 ·rw[if_neg a,if_neg a];by_cases c:C
  ·rw[if_neg (h3 c),if_neg (h4 c),if_pos c,if_pos c]
  ·rw[if_neg c,if_neg c]
def Rp (e:mT) (aO:Nat→Nat) (s g:Nat):Prop:=∃d es,e.new=some (d,es)∧s=d∧aO d≤g∧g-aO d<es.length
def WD (e:mT) (s g:Nat):Prop:=∃z,e.dM=some (s,g,z)
def Hw (e:mT) (aO:Nat→Nat) (g:Nat):Option jI:=match e.new with|some (d,es)=>es[g-aO d]? | none=>none
def WE (e:mT):Option jI:=match e.dM with|some (_,_,z)=>z|none=>none
theorem Bj (e:mT) (st:St) (s g:Nat):(e.apply st).heap s g=if Rp e st.aO s g then Hw e st.aO g else if WD e s g then WE e else st.heap s g:=by
 have hu:(match e.dM with|some (s0,g0,y)=>if s=s0∧g=g0 then y else st.heap s g|none=>st.heap s g)=if WD e s g then WE e else st.heap s g:=by
  unfold WD WE;cases hu:e.dM with
  | none=>simp
  | some u =>
    obtain⟨s0,g0,z⟩:=u
    simp only
    by_cases h:s=s0∧g=g0
    ·obtain⟨rfl,rfl⟩:=h
     rw[if_pos ⟨rfl,rfl⟩,if_pos ⟨z,rfl⟩]
    ·rw[if_neg h,if_neg];rintro⟨z',h'⟩
     simp only[Option.some.injEq,Prod.mk.injEq] at h'
     exact h ⟨h'.1.symm,h'.2.1.symm⟩
 rw[tK];unfold Rp Hw;cases hn:e.new with
 | none=>simp only;rw[if_neg (by rintro⟨d,es,h,_⟩;cases h)];exact hu
 | some p =>
   obtain⟨d,es⟩:=p
   simp only
   by_cases h:s=d∧st.aO d≤g∧g-st.aO d<es.length
   ·rw[if_pos h,if_pos ⟨d,es,rfl,h⟩]
   ·rw[if_neg h,if_neg]
    ·exact hu
    ·rintro⟨d',es',h',h2⟩
     simp only[Option.some.injEq,Prod.mk.injEq] at h'
     obtain⟨rfl,rfl⟩:=h'
     exact h h2
theorem aAK {x y:Oper} {aS bs:List Nat} (Ll:∀t,mN st.aO (st.env t)) (hax:gK x=some aS) (hay:gK y=some bs) (nM:Oper.apart ops x y=true) (hf:Ku st aS bs) {s1 s2:St} (hx:cE P call ops x st=some s1) (hy:cE P call ops y s1=some s2) :
 ∃s3,cE P call ops y st=some s3∧cE P call ops x s3=some s2:=by
 obtain⟨l1,l2,l3⟩:=Oper.apart_spec nM
 have l2':∀d,y.dst=some d→x.dst≠some d:=fun d hd hx=>l2 d hx hd
 rw[Fb] at hx hy;cases hex:sD P call ops x st with
 | none=>simp[hex] at hx
 | some ex =>
   simp only[hex,Option.map_some,Option.some.injEq] at hx;subst hx;rw[FP Ll hax hay l1 l2 (fun a ha b hb=>.inl (hf a ha b hb)) hex] at hy
   cases o8:sD P call ops y st with
   | none=>simp[o8] at hy
   | some ey =>
     simp only[o8,Option.map_some,Option.some.injEq] at hy;subst hy;refine⟨ey.apply st,by rw[Fb,o8];rfl, ?_⟩
     rw[Fb,FP Ll hay hax l3 l2' (fun b hb a ha=>.inr (hf a ha b hb)) o8,hex]
     simp only[Option.map_some,Option.some.injEq];obtain⟨dx,nx,_⟩:=oX hex
     obtain⟨dy,ny,_⟩:=oX o8
     have ux:=Ro hax hex
     have uy:=Ro hay o8
     have cx:∀d z,ey.new=some (d,z)→(ex.apply st).aO d=st.aO d:=fun d z hn=>by
      rw[lM];split
      ·rename_i d' z' Is
       rw[if_neg];rintro rfl
       exact l2 _ (nx _ _ Is) (ny _ _ hn)
      ·rfl
     have cy:∀d z,ex.new=some (d,z)→(ey.apply st).aO d=st.aO d:=fun d z hn=>by
      rw[lM];split
      ·rename_i d' z' Is
       rw[if_neg];rintro rfl
       exact l2 _ (nx _ _ hn) (ny _ _ Is)
      ·rfl
     apply aAF
     ·funext t
      rw[oM,oM,oM,oM,dx,dy];by_cases h1:x.dst=some t
      ·rw[if_pos h1,if_pos h1,if_neg (l2 t h1)]
      ·rw[if_neg h1,if_neg h1]
     ·funext s g
      have nyE:Rp ey (ex.apply st).aO s g↔Rp ey st.aO s g:=by
       constructor
       ·rintro⟨d,es,h,h2⟩;rw[cx d es h] at h2;exact⟨d,es,h,h2⟩
       ·rintro⟨d,es,h,h2⟩;rw[← cx d es h] at h2;exact⟨d,es,h,h2⟩
      have nxE:Rp ex (ey.apply st).aO s g↔Rp ex st.aO s g:=by
       constructor
       ·rintro⟨d,es,h,h2⟩;rw[cy d es h] at h2;exact⟨d,es,h,h2⟩
       ·rintro⟨d,es,h,h2⟩;rw[← cy d es h] at h2;exact⟨d,es,h,h2⟩
      have vyE:Hw ey (ex.apply st).aO g=Hw ey st.aO g:=by
       unfold Hw;cases hn:ey.new with
       | none=>rfl
       | some p=>simp only[cx p.1 p.2 hn]
      have vxE:Hw ex (ey.apply st).aO g=Hw ex st.aO g:=by
       unfold Hw;cases hn:ex.new with
       | none=>rfl
       | some p=>simp only[cy p.1 p.2 hn]
      rw[Bj,Bj,Bj,Bj];simp only[nyE,nxE,vyE,vxE];symm
      have idk:∀a s g,keyOf (st.env a)=some (some (s,g))→g<st.aO s:=fun a s g h=>aAI (Ll a) h
      refine aAJ ?_ ?_ ?_ ?_
      ·rintro⟨d,es,h,rfl,_⟩ ⟨d',es',h',rfl,_⟩
       exact l2 _ (nx _ _ h) (ny _ _ h')
      ·rintro⟨d,es,h,rfl,h1,_⟩ ⟨z,h'⟩
       obtain⟨b,_,hb⟩:=uy _ _ _ h'
       have:=idk b _ _ hb
       omega
      ·rintro⟨z,h⟩ ⟨d,es,h',rfl,h1,_⟩
       obtain⟨a,_,ha⟩:=ux _ _ _ h
       have:=idk a _ _ ha
       omega
      ·rintro⟨z,h⟩ ⟨z',h'⟩
       obtain⟨a,ha,hka⟩:=ux _ _ _ h
       obtain⟨b,hb,hkb⟩:=uy _ _ _ h'
       exact aAH (.inl (hf a ha b hb)) hka hkb rfl
     ·funext s
      rw[lM,lM];cases G6:ex.new with
      | none=>cases TA:ey.new<;>simp only[lM,G6,TA]
      | some a =>
        obtain⟨d,z⟩:=a
        cases TA:ey.new with
        | none=>simp only[lM,G6,TA]
        | some b =>
          obtain⟨d',z'⟩:=b
          have G7:d≠d':=by
           rintro rfl
           exact l2 _ (nx _ _ G6) (ny _ _ TA)
          simp only[lM,G6,TA];rw[if_neg G7,if_neg (Ne.symm G7)];by_cases h1:s=d
          ·subst h1;rw[if_neg G7,if_pos rfl,if_neg G7]
          ·rw[if_neg h1,if_neg h1]
end
end Go.Ab
end
