/-
  Part 3 of the proof: an evaluator of programs, its soundness, and what functions of this program compute.
-/
import Derived.Test.YtmcjkemalibacaaGreatK2
import Derived.Deep.Upon
set_option linter.all false
set_option maxRecDepth 20000
set_option maxHeartbeats 40000000
section
namespace Go.Ab
open Classical
section
variable {P:Program} {h0:Nat→Obj→Prop} {w0:World} {F:Frm} {nt:Nat} {ρ:Nat→Nat→Value} {st:St} {a:Act} {w:World} {K:Act→World→Prop} {Q:Exit→Act→World→Prop}
theorem append_run {base T ty e:Nat} {ei:TypeInfo} {ez:Value} (hT:P.underlying T=some (.slice e)) (hie:P.info? e=some ei) (hz0:ei.zero=some ez) (hzs:ez.cells.size=ei.size) (hpos:0 < ei.size)
 (hbase:base≤w.heap.size) {v:Value} {n:Nat} {xs:List Value} (hown:ownsR w base e ei.size v n xs)
 {p:Option Addr} {m c:Nat} {news:List Value} (hl:news.length=m * ei.size) (hsrc:news≠[]→∃ ad,p=some ad∧∀ (j:Nat) (u:Value),news[j]? = some u→w.cell? (ad.add j)=some u)
 (h1:∀ u∈news,u.oneCell'=true) (h63:n+m≤maxLen) (hb:(n+m) * ei.bytes≤140737488355328) :
 ∃ v' w',(Builtin.append_ #[T,T] ty #[v,.slice p m c]).run P w=.ok v' w'∧ownsR w' base e ei.size v' (n+m) (xs ++ news)∧w.grownBy w' (blkOf v)∧(∀ b,blkOf v'=some b→blkOf v=some b∨w.heap.size≤b):=by
 by_cases hm:m=0
 ·subst hm
  have hn:news=[]:=List.eq_nil_of_length_eq_zero (by simpa using hl)
  subst hn
  refine⟨v,w, ?_,by simpa using hown,⟨rfl,rfl,rfl,Nat.le_refl _,fun _ _ _=>rfl⟩,fun b hb=>.inl hb⟩
  have hfc:∀ (x:Value),(∃ p,x=.slice p 0 c)→(Builtin.firstCells ei.size 0 x).run P w=.ok #[] w:=by
   rintro x ⟨p,rfl⟩
   cases p<;>simp[Builtin.firstCells,loadCells,loadCellsFrom]
  rcases hown.2 with ⟨q,rfl,rfl⟩ | ⟨g,cap,cur,rfl,_,_,hnc,_⟩
  ·cases q<;>simp[Builtin.append_,run_underlying' hT,run_sizeOf w hie,Builtin.lenOf,hfc _ ⟨p,rfl⟩,storeCells]
  ·simp[Builtin.append_,run_underlying' hT,run_sizeOf w hie,Builtin.lenOf,hfc _ ⟨p,rfl⟩,hnc,storeCells]
 ·have hne:news≠[]:=by
   intro h
   subst h
   have:0 < m * ei.size:=Nat.mul_pos (by omega) hpos
   simp at hl
   omega
  obtain⟨ad,rfl,hnews⟩:=hsrc hne
  have hlen:(xs ++ news).length=(n+m) * ei.size:=by rw[List.length_append,hown.1,hl,Nat.add_mul]
  have grow:∀ (ga:Addr) (cap:Nat),cap < n+m→(∀ (j:Nat) (u:Value),xs[j]? = some u→w.cell? (ga.add j)=some u)→∃ v' w',(Builtin.append_ #[T,T] ty #[.slice (some ga) n cap,.slice (some ad) m c]).run P w=.ok v' w' ∧
   ownsR w' base e ei.size v' (n+m) (xs ++ news)∧w.grownBy w' none∧∀ b,blkOf v'=some b→w.heap.size≤b:=by
   intro ga cap hroom holds
   have hr:=run_append_grow (P:=P) w T ty e ei ez hT hie hz0 ga n cap xs hown.1 holds ad m c news hl hnews (by omega) (by simp only[maxLen] at h63;omega) (growslice_fits (by omega) hb)
   have hge:=grownCap_ge w (n+m) cap e
   have hcm':=grownCap_le_maxLen w (n+m) cap e h63
   refine⟨_,_,hr,⟨hlen,.inr ⟨w.heap.size,_,_,rfl,hbase,heap_alloc_new w.drew _,hge,hcm', ?_, ?_,by omega⟩⟩,⟨rfl,rfl,rfl,by simp,fun k hk _=>heap_alloc_old w.drew _ hk⟩,fun b hb=>?_⟩
   ·simp only[Array.size_append,List.size_toArray,size_zeroCells,hzs,hown.1,hl,← Nat.add_mul]
    congr 1
    omega
   ·simp only[Array.toList_append,List.append_assoc]
    rw[← List.append_assoc,← hlen]
    exact List.take_left
   ·rw[blkOf_sl (by omega)] at hb
    simp at hb
    omega
  rcases hown.2 with ⟨q,rfl,rfl⟩ | ⟨g,cap,cur,rfl,hbg,hg,hnc,hcm,hcs,htake,hc0⟩
  ·have hx:xs=[]:=List.eq_nil_of_length_eq_zero (by simpa using hown.1)
   cases q with
   | none =>
     subst hx
     obtain⟨v',w',hr,ho,hgr,_⟩:=run_append_own (P:=P) w w.heap.size T ty e ei ez ei.size ei.bytes hT hie hz0 rfl rfl hzs hpos (.slice none 0 0) 0 [] (World.ownsRow_nil w _ e ei.size)
      ad m c news hl hnews h1 (by simpa using h63) (by simpa using hb) (Nat.le_refl _)
     exact⟨v',w',hr,ownsR_base (ownsR_of ho) hbase,hgr,fun b hb=>.inr ((ownsR_blk (ownsR_of ho) b hb).1)⟩
   | some ga =>
     obtain⟨v',w',hr,ho,hgr,hb'⟩:=grow ga 0 (by omega) (by rw[hx];simp)
     exact⟨v',w',hr,ho,by rw[blkOf_sl0];exact hgr,fun b hb=>.inr (hb' b hb)⟩
  ·by_cases hroom:n+m≤cap
   ·have hfit:n * ei.size+news.length≤cur.size:=by rw[hl,hcs,← Nat.add_mul];exact Nat.mul_le_mul_right _ hroom
    have hr:=run_append_room (P:=P) w T ty e ei hT hie g n cap cur hg ad m c news hl hnews h1 hroom hfit
    refine⟨_,_,hr,⟨hlen,.inr ⟨g,cap,_,rfl,hbg,setRow_heap w g cur _ e _ hg,hroom,hcm, ?_, ?_,hc0⟩⟩,⟨rfl,rfl,rfl,by simp,fun k _ hk=>setRow_other w g k _ (fun e=>hk (by rw[blkOf_sl hc0,e]))⟩,fun b hb=>.inl (by rw[blkOf_sl hc0] at hb ⊢;exact hb)⟩
    ·simp only[List.size_toArray,List.length_append,List.length_take,List.length_drop,Array.length_toList]
     omega
    ·rw[htake,← hlen]
     exact List.take_left
   ·have holds:∀ (j:Nat) (u:Value),xs[j]? = some u→w.cell? ((⟨g,0,none⟩:Addr).add j)=some u:=fun j u hu=>by
     rw[addr_add,Nat.zero_add,cell_of_row w g j cur e (0,0) hg]
     rw[← htake,List.getElem?_take] at hu
     split at hu
     ·simpa using hu
     ·cases hu
    obtain⟨v',w',hr,ho,hgr,hb'⟩:=grow ⟨g,0,none⟩ cap (by omega) holds
    exact⟨v',w',hr,ho,⟨hgr.os,hgr.tape,hgr.output,hgr.size,fun k hk _=>hgr.block k hk (by simp)⟩,fun b hb=>.inr (hb' b hb)⟩
theorem apply_one (dst:Option Nat) (v:AV) (d:Nat) (x:Ent):Eff.apply { dst:=dst,val:=v,new:=some (d,[x])} st=(st.new d x).put dst v:=by
 simp only[Eff.apply,news_one]
theorem apply_two (dst:Option Nat) (v:AV) (s g d:Nat) (z:Option Ent) (x:Ent):Eff.apply { dst:=dst,val:=v,upd:=some (s,g,z),new:=some (d,[x])} st=((st.setH s g z).new d x).put dst v:=by
 simp only[Eff.apply,news_one]
theorem append_sound (S:Sim F h0 w0 nt ρ st a w) {T ty d:Nat} {s x:AV} {u:Option (Nat × Nat)} {r:Ent} {sv xv:Value} (hd:d < nt) (h:appendA P st T s x=some (u,r))
 (hs:RelV (ctx h0 w0 ρ st w) s sv) (hx:RelV (ctx h0 w0 ρ st w) x xv) :
 ∃ v w' ρ',(Builtin.append_ #[T,T] ty #[sv,xv]).run P w=.ok v w' ∧
   Sim F h0 w0 nt ρ' (Eff.apply { dst:=some d,val:=.own d (st.cnt d),upd:=u.map fun p=>(p.1,p.2,none),new:=some (d,[r])} st) (a.put (some d) v) w':=by
 unfold appendA at h
 cases hsl:slInfo P T with
 | none=>simp[hsl] at h
 | some t =>
   obtain⟨e,sz,by_⟩:=t
   simp only[hsl] at h
   obtain⟨ei,ez,hT,hie,hz0,rfl,hzs,rfl,hpos⟩:=slInfo_spec hsl
   cases hv:sliceView st x with
   | none=>simp[hv] at h
   | some mn =>
     obtain⟨m,news⟩:=mn
     simp only[hv] at h
     split at h
     ·rename_i hlen
      obtain⟨p,c,rfl,hsrc⟩:=sliceView_sound S hv hx
      have hsrc':∃ nv:List Value,CellL (ctx h0 w0 ρ st w) news nv∧(nv≠[]→∃ ad,p=some ad∧∀ (j:Nat) (u:Value),nv[j]? = some u→w.cell? (ad.add j)=some u):=by
       by_cases hne:news=[]
       ·subst hne;exact⟨[],.nil _,fun h=>absurd rfl h⟩
       ·obtain⟨b,off,arr,T',fr,hp,hb,hc⟩:=hsrc hne
        refine⟨_,hc,fun _=>⟨_,hp,fun j u hu=>?_⟩⟩
        rw[addr_add,cell_of_row w b (off+j) arr T' fr hb]
        rw[List.getElem?_take] at hu
        split at hu
        ·rw[List.getElem?_drop] at hu
         simpa using hu
        ·cases hu
      obtain⟨nv,hnc,hcell⟩:=hsrc'
      have hnl:nv.length=m * ei.size:=by rw[← hnc.len,hlen]
      have hn1:∀ u∈nv,u.oneCell'=true:=fun u hu=>by
       obtain⟨j,hj,rfl⟩:=List.getElem_of_mem hu
       exact hnc.one j _ (by simp)
      split at h
      ·split at h
       ·rename_i hc
        simp only[Option.some.injEq,Prod.mk.injEq] at h
        obtain⟨rfl,rfl⟩:=h
        have:=relV_v hs
        subst this
        obtain⟨v',w',hr,ho,hg,hfr⟩:=append_run (P:=P) (w:=w) (base:=w.heap.size) (ty:=ty) hT hie hz0 hzs hpos (Nat.le_refl _) (ownsR_of (World.ownsRow_nil w _ e ei.size)) (p:=p) (c:=c) hnl hcell hn1 (by simpa using hc.2) (by simpa using hc.1)
        simp only[Nat.zero_add,List.nil_append] at ho
        obtain⟨ρ',S'⟩:=S.newRow d hd hg e ei.size m news nv v' ho hnc
        exact⟨v',w',ρ',hr,by rw[Option.map_none,apply_one];exact S'⟩
       ·cases h
      ·rename_i s' g'
       cases he:st.heap s' g' with
       | none=>simp[he] at h
       | some e' =>
         cases e' with
         | row e2 sz2 n cs =>
           simp only[he] at h
           split at h
           ·rename_i hc
            obtain⟨rfl,rfl,hb,h63⟩:=hc
            simp only[Option.some.injEq,Prod.mk.injEq] at h
            obtain⟨rfl,rfl⟩:=h
            obtain⟨_,_,xs,ho,hcs⟩:=S.ent s' g' _ he
            cases hs with
            | own _ _ hg1 ho1 =>
              obtain⟨v',w',hr,ho',hg,hfr⟩:=append_run (P:=P) (w:=w) (ty:=ty) hT hie hz0 hzs hpos S.ext.size ho (p:=p) (c:=c) hnl hcell hn1 h63 hb
              obtain⟨S',k,hnew⟩:=S.regrow he hg d (.row e2 ei.size (n+m) (cs ++ news)) v' (ownsR_one ho') hfr (fun C k=>⟨xs ++ nv,ho',(hcs.app hnc).le k⟩)
              have hlt:st.cnt d < (ctx h0 w0 (upρ ρ d (st.cnt d) v') ((st.setH s' g' none).new d (.row e2 ei.size (n+m) (cs ++ news))) w').cnt d:=by simp[ctx,St.new,St.setH]
              have hρ:(ctx h0 w0 (upρ ρ d (st.cnt d) v') ((st.setH s' g' none).new d (.row e2 ei.size (n+m) (cs ++ news))) w').ρ d (st.cnt d)=v':=hnew
              have:=RelV.own (C:=ctx h0 w0 (upρ ρ d (st.cnt d) v') ((st.setH s' g' none).new d (.row e2 ei.size (n+m) (cs ++ news))) w') d (st.cnt d) hlt (by rw[hρ];exact ownsR_one ho')
              rw[hρ] at this
              have hS:=S'.put (some d) (fun t ht=>by cases ht;exact hd) this
              exact⟨v',w',_,hr,by rw[Option.map_some,apply_two];exact hS⟩
           ·cases h
         | _=>simp[he] at h
      ·rename_i n cs
       split at h
       ·rename_i hc
        obtain⟨c1,c2,c3,c4⟩:=hc
        simp only[Option.some.injEq,Prod.mk.injEq] at h
        obtain⟨rfl,rfl⟩:=h
        have main:∀ (q:Option Addr) (ys:List Value),sv=.slice q n n→CellL (ctx h0 w0 ρ st w) cs ys→(ys≠[]→∃ ad,q=some ad∧∀ (j:Nat) (u:Value),ys[j]? = some u→w.cell? (ad.add j)=some u) →
         ∃ v' w',(Builtin.append_ #[T,T] ty #[sv,.slice p m c]).run P w=.ok v' w'∧ownsR w' w.heap.size e ei.size v' (n+m) (ys ++ nv)∧w.grownBy w' none:=by
         rintro q ys rfl hys hcell'
         have hyl:ys.length=n * ei.size:=by rw[← hys.len,c1]
         by_cases hm:m=0
         ·have hn0:n=0:=by omega
          subst hm;subst hn0
          have hy0:ys=[]:=List.eq_nil_of_length_eq_zero (by simpa using hyl)
          have hn0:nv=[]:=List.eq_nil_of_length_eq_zero (by simpa using hnl)
          subst hy0;subst hn0
          obtain⟨v',w',hr,ho,hg,_⟩:=append_run (P:=P) (w:=w) (base:=w.heap.size) (ty:=ty) (v:=.slice q 0 0) (n:=0) (xs:=[]) hT hie hz0 hzs hpos (Nat.le_refl _) ⟨by simp,.inl ⟨q,rfl,rfl⟩⟩ (p:=p) (c:=c) hnl hcell (by simp) c4 c3
          rw[blkOf_sl0] at hg
          exact⟨v',w',hr,ho,hg⟩
         ·have hne:nv≠[]:=by
           intro h
           rw[h] at hnl
           have:0 < m * ei.size:=Nat.mul_pos (by omega) hpos
           simp at hnl
           omega
          obtain⟨ad,rfl,hnews⟩:=hcell hne
          have hlen':(ys ++ nv).length=(n+m) * ei.size:=by rw[List.length_append,hyl,hnl,Nat.add_mul]
          cases q with
          | none =>
            have hy0:ys=[]:=by
             by_cases h:ys=[]
             ·exact h
             ·obtain⟨ad,h1,_⟩:=hcell' h
              cases h1
            subst hy0
            have hn0:n=0:=by
             rcases Nat.eq_zero_or_pos n with h | h
             ·exact h
             ·have:=Nat.mul_pos h hpos
              simp at hyl
              omega
            subst hn0
            obtain⟨v',w',hr,ho,hg,_⟩:=append_run (P:=P) (w:=w) (base:=w.heap.size) (ty:=ty) (v:=.slice none 0 0) (n:=0) (xs:=[]) hT hie hz0 hzs hpos (Nat.le_refl _) ⟨by simp,.inl ⟨none,rfl,rfl⟩⟩ (p:=some ad) (c:=c) hnl hcell hn1 c4 c3
            rw[blkOf_sl0] at hg
            exact⟨v',w',hr,ho,hg⟩
          | some ga =>
            have holds:∀ (j:Nat) (u:Value),ys[j]? = some u→w.cell? (ga.add j)=some u:=fun j u hu=>by
             have hne':ys≠[]:=by intro h;rw[h] at hu;simp at hu
             obtain⟨ad',h1,h2⟩:=hcell' hne'
             cases h1
             exact h2 j u hu
            have hr:=run_append_grow (P:=P) w T ty e ei ez hT hie hz0 ga n n ys hyl holds ad m c nv hnl hnews (by omega) (by simp only[maxLen] at c4;omega) (growslice_fits (by omega) c3)
            have hge:=grownCap_ge w (n+m) n e
            have hcm':=grownCap_le_maxLen w (n+m) n e c4
            refine⟨_,_,hr,⟨hlen',.inr ⟨w.heap.size,_,_,rfl,Nat.le_refl _,heap_alloc_new w.drew _,hge,hcm', ?_, ?_,by omega⟩⟩,⟨rfl,rfl,rfl,by simp,fun k hk _=>heap_alloc_old w.drew _ hk⟩⟩
            ·simp only[Array.size_append,List.size_toArray,size_zeroCells,hzs,hyl,hnl,← Nat.add_mul]
             congr 1
             omega
            ·simp only[Array.toList_append,List.append_assoc]
             rw[← List.append_assoc,← hlen']
             exact List.take_left
        have fin:∀ (ys:List Value),CellL (ctx h0 w0 ρ st w) cs ys→(∃ v' w',(Builtin.append_ #[T,T] ty #[sv,.slice p m c]).run P w=.ok v' w'∧ownsR w' w.heap.size e ei.size v' (n+m) (ys ++ nv)∧w.grownBy w' none) →
         ∃ v w' ρ',(Builtin.append_ #[T,T] ty #[sv,.slice p m c]).run P w=.ok v w' ∧
           Sim F h0 w0 nt ρ' (Eff.apply { dst:=some d,val:=.own d (st.cnt d),upd:=(none:Option (Nat × Nat)).map fun p=>(p.1,p.2,none),new:=some (d,[.row e ei.size (n+m) (cs ++ news)])} st) (a.put (some d) v) w':=by
         rintro ys hys ⟨v',w',hr,ho,hg⟩
         obtain⟨ρ',S'⟩:=S.newRow d hd hg e ei.size (n+m) (cs ++ news) (ys ++ nv) v' ho (hys.app hnc)
         exact⟨v',w',ρ',hr,by rw[Option.map_none,apply_one];exact S'⟩
        cases hs with
        | cl0 n q=>exact fin [] (.nil _) (main q [] rfl (.nil _) (by simp))
        | cl n cs b off arr T' fr hb hle hr h1' =>
          have hcl:CellL (ctx h0 w0 ρ st w) cs ((arr.toList.drop off).take cs.length):=by
           refine⟨by simp;omega,fun i x y hx hy=>?_,fun i y hy=>?_⟩
           ·have hi:=(List.getElem?_eq_some_iff.1 hx).1
            rw[List.getElem?_take,if_pos hi,List.getElem?_drop] at hy
            exact hr i x y hx (by simpa using hy)
           ·rw[List.getElem?_take] at hy
            split at hy
            ·rename_i hi;rw[List.getElem?_drop] at hy
             exact h1' i y hi (by simpa using hy)
            ·cases hy
          refine fin _ hcl (main _ _ rfl hcl fun _=>⟨⟨b,off,none⟩,rfl,fun j u hu=>?_⟩)
          rw[addr_add,cell_of_row w b (off+j) arr T' fr hb.1]
          rw[List.getElem?_take] at hu
          split at hu
          ·rw[List.getElem?_drop] at hu
           simpa using hu
          ·cases hu
       ·cases h
      ·cases h
     ·cases h
theorem asFn_sound {C:Ctx} {x:AV} {v:Value} {g:Nat} {caps:List AV} (h:asFn x=some (g,caps)) (hr:RelV C x v):∃ cv,v=.func (.func g) #[] cv∧RelL C caps cv.toList:=by
 unfold asFn at h
 split at h
 ·split at h
  ·rename_i hc
   obtain⟨rfl,rfl⟩:=hc
   simp only[Option.some.injEq,Prod.mk.injEq] at h
   obtain⟨rfl,rfl⟩:=h
   have:=relV_v hr
   subst this
   exact⟨#[],rfl,.nil C⟩
  ·cases h
 ·simp only[Option.some.injEq,Prod.mk.injEq] at h
  obtain⟨rfl,rfl⟩:=h
  cases hr with
  | clo f cs a hl hr=>exact⟨a,rfl,by simpa using hl,fun i x y hx hy=>hr i x y hx (by simpa using hy)⟩
 ·cases h
variable [Ext]
theorem callEff_sound (S:Sim F h0 w0 nt ρ st a w) {call:Nat→List AV→Option AV} (hcall:CallOk P call) {o:Oper} {c:Call} (hop:o.op=.call c) {e:Eff}
 (h:callEff P call c o.dst st=some e) (hd:∀ d,o.dst=some d→d < nt)
 (hK:∀ ρ' a' w',Sim F h0 w0 nt ρ' (e.apply st) a' w'→K a' w'):o.wp P a w K Q:=by
 have hargs:RelL (ctx h0 w0 ρ st w) (c.args.toList.map st.ev) (c.args.toList.map a.eval):=RelL.map _ _ _ fun p _=>S.ev p
 unfold callEff at h
 split at h
 ·rename_i f hf
  have fin:∀ g cv,a.eval f=.func (.func g) #[] cv→(Enters P g∧Calls P g (c.args.map a.eval ++ cv) w fun en w'=>∃ v,en=.returned v∧K (a.put o.dst v) w')→o.wp P a w K Q:=by
   rintro g cv hv ⟨⟨fn,hfun,hname,hbody⟩,hcalls⟩
   have hnb:fn.body.isNone=false:=by
    cases hb:fn.body<;>simp[hb] at hbody ⊢
   have hn1 : ¬ fn.name = "runtime.NumGoroutine" := by simpa using hname
   have hn2:¬ fn.body=none:=by intro h;simp[h] at hnb
   have hrun:(execOp a.eval o).run P w=.ok (.enter g (c.args.map a.eval ++ cv)) w:=by
    simp[execOp,hop,resolve,hf,hv,Deferred.ofValue,invoke,callFunc,hfun,hn1,hn2]
   unfold Oper.wp
   rw[hrun,Oper.upon_enter]
   refine hcalls.mono ?_
   rintro en w' ⟨v,rfl,hk⟩
   exact hk
  have gen:∀ g caps,asFn (st.ev f)=some (g,caps)→callFn call g (c.args.toList.map st.ev ++ caps) st o.dst=some e→o.wp P a w K Q:=by
   intro g caps hfn h
   obtain⟨cv,hv,hcaps⟩:=asFn_sound hfn (S.ev f)
   have hrel:RelL (ctx h0 w0 ρ st w) (c.args.toList.map st.ev ++ caps) (c.args.map a.eval ++ cv).toList:=by
    simpa using hargs.app hcaps
   exact fin g cv hv (callFn_sound S hcall h hrel hd hK)
  unfold callVal at h
  split at h
  ·rename_i g
   split at h
   ·refine fin g #[] rfl ?_
    exact callMv_sound S hcall h (by simpa using hargs) hd hK
   ·split at h
    ·refine fin g #[] rfl ?_
     exact callEat_sound S hcall h (by simpa using hargs) hd hK
    ·exact gen g [] rfl (by simpa using h)
  ·split at h
   ·rename_i g caps hfn
    exact gen g caps hfn h
   ·cases h
 ·rename_i hf
  split at h
  ·rename_i x T hx hT
   cases hs:slInfo P T with
   | none=>simp[hs] at h
   | some t =>
     cases hv:sliceView st (st.ev x) with
     | none=>simp[hs,hv] at h
     | some nc =>
       obtain⟨n,cs⟩:=nc
       simp only[hs,hv,Option.some.injEq] at h
       subst h
       obtain⟨p,cap,hval,_⟩:=sliceView_sound S hv (S.ev x)
       obtain⟨e,sz,by_⟩:=t
       obtain⟨ei,ez,hu,_⟩:=slInfo_spec hs
       have ha:c.args=#[x]:=by apply Array.ext';simpa using hx
       have ht:c.argTypes=#[T]:=by apply Array.ext';simpa using hT
       refine upon_value (v:=.int .i64 n) ?_ (hK ρ _ w (S.put o.dst hd (.v _)))
       simp[execOp,hop,resolve,hf,ha,ht,invoke,builtin,Builtin.len_,hval,run_underlying' hu,goInt]
  ·cases h
 ·rename_i hf
  split at h
  ·rename_i x y hx
   split at h
   ·rename_i k p k' q h1 h2
    simp only[Option.some.injEq] at h
    subst h
    have e1:=S.ev x
    rw[h1] at e1
    have e1:=relV_v e1
    have e2:=S.ev y
    rw[h2] at e2
    have e2:=relV_v e2
    have ha:c.args=#[x,y]:=by apply Array.ext';simpa using hx
    refine upon_value (v:=.int k (if q < p then q else p)) ?_ (hK ρ _ w (S.put o.dst hd (.v _)))
    simp[execOp,hop,resolve,hf,ha,invoke,builtin,Builtin.min_,Builtin.min2,e1,e2]
   ·cases h
  ·cases h
 ·rename_i hf
  split at h
  ·rename_i x y hx
   split at h
   ·rename_i k p k' q h1 h2
    simp only[Option.some.injEq] at h
    subst h
    have e1:=S.ev x
    rw[h1] at e1
    have e1:=relV_v e1
    have e2:=S.ev y
    rw[h2] at e2
    have e2:=relV_v e2
    have ha:c.args=#[x,y]:=by apply Array.ext';simpa using hx
    refine upon_value (v:=.int k (if q > p then q else p)) ?_ (hK ρ _ w (S.put o.dst hd (.v _)))
    simp[execOp,hop,resolve,hf,ha,invoke,builtin,Builtin.max_,Builtin.max2,e1,e2]
   ·cases h
  ·cases h
 ·rename_i hf
  cases hdst:o.dst with
  | none=>simp[hdst,bnd] at h
  | some d =>
  simp only[hdst,bnd] at h
  split at h
  ·rename_i s x T T' hx hT
   split at h
   ·rename_i hTT
    subst hTT
    split at h
    ·rename_i hpa
     obtain⟨_,hs0,hsl,hv'⟩:=hpa
     obtain⟨⟨_,cs⟩,hv,hv0⟩:=Option.map_eq_some_iff.1 hv'
     simp only at hv0
     subst hv0
     simp only[Option.some.injEq] at h
     subst h
     have e1:=S.ev s
     rw[hs0] at e1
     have e1:=relV_v e1
     obtain⟨q,c',hxv,_⟩:=sliceView_sound S hv (S.ev x)
     cases hsi:slInfo P T with
     | none=>rw[hsi] at hsl;cases hsl
     | some t =>
     obtain⟨e,sz,by_⟩:=t
     obtain⟨ei,ez,hT',hie,_⟩:=slInfo_spec hsi
     have hz:∀ w:World,(Builtin.firstCells ei.size 0 (.slice q 0 c')).run P w=.ok ([]:List Value).toArray w:=fun w=>by cases q<;>simp[Builtin.firstCells,loadCells,loadCellsFrom]
     have hr:(Builtin.append_ #[T,T] o.type #[.slice none 0 0,.slice q 0 c']).run P w=.ok (.slice none 0 0) w:=run_append_nothing w T T o.type e ei hT' hie none 0 0 (Nat.le_refl _) _ ⟨.inl ⟨e,hT'⟩,fun w'=>by simp[Builtin.lenOf],hz _,hz _,by simp,by simp⟩
     have ha:c.args=#[s,x]:=by apply Array.ext';simpa using hx
     have ht:c.argTypes=#[T,T]:=by apply Array.ext';simpa using hT
     rw[hdst] at hd
     refine upon_value (v:=.slice none 0 0) ?_ (by rw[hdst];exact hK ρ _ w (S.put (some d) hd (.v _)))
     simp[execOp,hop,resolve,hf,ha,ht,invoke,builtin,e1,hxv,hr]
    cases hap:appendA P st T (st.ev s) (st.ev x) with
    | none=>simp[hap] at h
    | some ur =>
      obtain⟨u,r⟩:=ur
      simp only[hap,Option.some.injEq] at h
      subst h
      obtain⟨v,w',ρ',hr,S'⟩:=append_sound (ty:=o.type) S (hd d hdst) hap (S.ev s) (S.ev x)
      have ha:c.args=#[s,x]:=by apply Array.ext';simpa using hx
      have ht:c.argTypes=#[T,T]:=by apply Array.ext';simpa using hT
      have hk:=hK ρ' _ w' S'
      unfold Oper.wp
      simp only[execOp,hop,resolve,hf,ha,ht,invoke,builtin]
      simp[hr]
      unfold Oper.upon
      rw[hdst]
      exact hk
   ·cases h
  ·cases h
 ·cases h
theorem opEff_sound (S:Sim F h0 w0 nt ρ st a w) {call:Nat→List AV→Option AV} (hcall:CallOk P call) {o:Oper} {e:Eff} (h:opEff P call o st=some e) (hd:∀ d,o.dst=some d→d < nt)
 (hK:∀ ρ' a' w',Sim F h0 w0 nt ρ' (e.apply st) a' w'→K a' w'):o.wp P a w K Q:=by
 unfold opEff at h
 split at h
 ·rename_i T hop
  cases hdst:o.dst with
  | none=>simp[hdst,bnd] at h
  | some d =>
    cases hz:zeroL P T with
    | none=>simp[hdst,hz,bnd] at h
    | some z =>
      simp only[hdst,hz,bnd,Option.some.injEq] at h
      subst h
      obtain⟨i,zv,hi,hzz,rfl,hz1⟩:=zeroL_spec hz
      obtain⟨ρ',S'⟩:=S.newVar d (hd d hdst) (zv.cells.toList.map .v) zv.cells T (CellL.vs _ _ hz1)
      refine upon_value (v:=.pointer (some ⟨w.heap.size,0,none⟩)) (w':=w.alloc (.cells zv.cells T)) ?_ (by rw[hdst];exact hK ρ' _ _ (by rw[apply_one];exact S'))
      simp only[execOp,hop,Instr.alloc]
      simp[run_zeroValue w hi hzz,Go.newVar,Go.newRow]
 ·rename_i T x hop
  cases hdst:o.dst with
  | none=>simp[hdst,bnd] at h
  | some d =>
    simp only[hdst,bnd] at h
    split at h
    ·rename_i hst
     simp only[Option.some.injEq] at h
     subst h
     obtain⟨ρ',S'⟩:=S.newVar d (hd d hdst) (st.ev x).cells (a.eval x).cells T ((S.ev x).cells hst)
     refine upon_value (v:=.pointer (some ⟨w.heap.size,0,none⟩)) (w':=w.alloc (.cells (a.eval x).cells T)) ?_ (by rw[hdst];exact hK ρ' _ _ (by rw[apply_one];exact S'))
     simp only[execOp,hop,Instr.box]
     simp[Go.newVar,Go.newRow]
    ·cases h
 ·rename_i T n parts hop
  cases hdst:o.dst with
  | none=>simp[hdst,bnd] at h
  | some d =>
    cases hs:slInfo P T with
    | none=>simp[hdst,hs,bnd] at h
    | some t =>
      obtain⟨e',sz,by_⟩:=t
      cases hz:zeroL P e' with
      | none=>simp[hdst,hs,hz,bnd] at h
      | some z =>
        simp only[hdst,hs,hz,bnd] at h
        split at h
        ·rename_i hc
         obtain⟨c1,c2,c3⟩:=hc
         cases hf:fillA (fun i=>some (i * sz,sz)) ((List.range n).flatMap fun _=>z.map .v) (parts.toList.map fun p=>(p.1,st.ev p.2)) with
         | none=>simp[hf] at h
         | some cs =>
           simp only[hf,Option.some.injEq] at h
           subst h
           obtain⟨v,w',xs,hr,hg,ho,hcell⟩:=buildSlice_sound S hs hz c1 c2 c3 hf
           obtain⟨ρ',S'⟩:=S.newRow d (hd d hdst) hg e' sz n cs xs v ho hcell
           refine upon_value (v:=v) (w':=w') ?_ (by rw[hdst];exact hK ρ' _ _ (by rw[apply_one];exact S'))
           simp only[execOp,hop]
           rw[run_ok_bind hr]
           rfl
        ·cases h
 ·rename_i T l c hop
  cases hdst:o.dst with
  | none=>simp[hdst,bnd] at h
  | some d =>
    cases hs:slInfo P T with
    | none=>simp[hdst,hs,bnd] at h
    | some t =>
      obtain⟨e',sz,by_⟩:=t
      cases hz:zeroL P e' with
      | none=>simp[hdst,hs,hz,bnd] at h
      | some z =>
        simp only[hdst,hs,hz,bnd] at h
        split at h
        ·rename_i n m hl hc
         split at h
         ·rename_i hcond
          obtain⟨c1,rfl,c3,c4⟩:=hcond
          simp only[Option.some.injEq] at h
          subst h
          obtain⟨k,rfl⟩:∃ k:Nat,n=k:=⟨n.toNat,by omega⟩
          obtain⟨v,w',xs,hr,hg,ho,hcell⟩:=makeSlice_sound (w:=w) (ctx h0 w0 ρ st w) hs hz (n:=k) (by
           have:((k * by_:Nat):Int)≤140737488355328:=by rw[Int.natCast_mul];exact c3
           omega) (by omega)
          obtain⟨ρ',S'⟩:=S.newRow d (hd d hdst) hg e' sz k _ xs v ho hcell
          simp only[Int.toNat_natCast] at hK
          refine upon_value (v:=v) (w':=w') ?_ (by rw[hdst];exact hK ρ' _ _ (by rw[apply_one];exact S'))
          have e1:=S.ev l
          rw[hl] at e1
          have e1:=relV_v e1
          have e2:=S.ev c
          rw[hc] at e2
          have e2:=relV_v e2
          simp only[execOp,hop,e1,e2]
          rw[run_ok_bind hr]
          rfl
         ·cases h
        ·cases h
 ·rename_i T x y hop
  cases hs:storeA P st T (st.ev x) (st.ev y) with
  | none=>simp[hs] at h
  | some u =>
    obtain⟨s,g,e'⟩:=u
    simp only[hs,Option.map_some,Option.some.injEq] at h
    subst h
    obtain⟨w',hr,S'⟩:=store_sound S hs (S.ev x) (S.ev y)
    have hk:=hK ρ _ w' (S'.put o.dst hd (.v undef))
    unfold Oper.wp
    simp only[execOp,hop]
    rw[run_ok_bind hr]
    exact hk
 ·rename_i T hop
  cases hdst:o.dst with
  | none=>simp[hdst,bnd] at h
  | some d =>
    simp only[hdst,bnd,Option.some.injEq] at h
    subst h
    obtain⟨S',k,hnew⟩:=S.new (World.grownBy_alloc w (.map #[] 0) none) d (.map []) (.map (some w.heap.size)) rfl (fun b hb=>by simp[blkOf] at hb;omega)
     (fun C k _=>⟨w.heap.size,#[],0,rfl,S.ext.size,heap_alloc_new w _,trivial⟩)
    have hlt:st.cnt d < (ctx h0 w0 (upρ ρ d (st.cnt d) (.map (some w.heap.size))) (st.new d (.map [])) (w.alloc (.map #[] 0))).cnt d:=by simp[ctx,St.new]
    have hρ:(ctx h0 w0 (upρ ρ d (st.cnt d) (.map (some w.heap.size))) (st.new d (.map [])) (w.alloc (.map #[] 0))).ρ d (st.cnt d)=.map (some w.heap.size):=hnew
    have:=RelV.mp (C:=ctx h0 w0 (upρ ρ d (st.cnt d) (.map (some w.heap.size))) (st.new d (.map [])) (w.alloc (.map #[] 0))) d (st.cnt d) hlt (by rw[hρ];rfl)
    rw[hρ] at this
    have hS:=S'.put (some d) (fun t ht=>by cases ht;exact hd d hdst) this
    refine upon_value (v:=.map (some w.heap.size)) (w':=w.alloc (.map #[] 0)) ?_ (by rw[hdst];exact hK _ _ _ (by rw[apply_one];exact hS))
    simp only[execOp,hop,Option.map_none]
    rfl
 ·rename_i T m x y hop
  cases hs:mapSetA P st T (st.ev m) (st.ev x) (st.ev y) with
  | none=>simp[hs] at h
  | some u =>
    obtain⟨s,g,e'⟩:=u
    simp only[hs,Option.map_some,Option.some.injEq] at h
    subst h
    obtain⟨w',hr,S'⟩:=mapSet_sound S hs (S.ev m) (S.ev x) (S.ev y)
    have hk:=hK ρ _ w' (S'.put o.dst hd (.v undef))
    unfold Oper.wp
    simp only[execOp,hop]
    rw[run_ok_bind hr]
    exact hk
 ·rename_i c hop
  exact callEff_sound S hcall hop h hd hK
 ·cases hv:opVal P st o.op with
  | none=>simp[hv] at h
  | some x =>
    simp only[hv,Option.map_some,Option.some.injEq] at h
    subst h
    obtain⟨v,hr,hrel⟩:=opVal_sound S hv
    exact upon_value hr (hK ρ _ w (S.put o.dst hd hrel))
end
end Go.Ab
end
section
namespace Go.Ab
open Classical
def IdOk (cnt:Nat→Nat) (x:AV):Prop:=∃ (C:Ctx) (v:Value),C.cnt=cnt∧RelV C x v
theorem IdOk.ptr {cnt:Nat→Nat} {s g o:Nat} (h:IdOk cnt (.ptr s g o)):g < cnt s:=by
 obtain⟨C,v,rfl,h⟩:=h
 cases h with
 | ptr s g off b hg hb=>exact hg
theorem IdOk.own {cnt:Nat→Nat} {s g:Nat} (h:IdOk cnt (.own s g)):g < cnt s:=by
 obtain⟨C,v,rfl,h⟩:=h
 cases h with
 | own s g hg _=>exact hg
theorem IdOk.vw {cnt:Nat→Nat} {s g o n:Nat} (h:IdOk cnt (.vw s g o n)):g < cnt s:=by
 obtain⟨C,v,rfl,h⟩:=h
 cases h with
 | vw s g o n b cap hg _ _=>exact hg
theorem IdOk.mp {cnt:Nat→Nat} {s g:Nat} (h:IdOk cnt (.mp s g)):g < cnt s:=by
 obtain⟨C,v,rfl,h⟩:=h
 cases h with
 | mp s g hg _=>exact hg
theorem IdOk.agg {cnt:Nat→Nat} {cs:List AV} (h:IdOk cnt (.agg cs)):∀ c∈cs,IdOk cnt c:=by
 obtain⟨C,v,rfl,h⟩:=h
 cases h with
 | agg cs a hl hr _ =>
   intro c hc
   obtain⟨i,hi,rfl⟩:=List.getElem_of_mem hc
   exact⟨C,a[i],rfl,hr i _ _ (by simp[hi]) (by simp)⟩
theorem IdOk.clo {cnt:Nat→Nat} {f:Nat} {cs:List AV} (h:IdOk cnt (.clo f cs)):∀ c∈cs,IdOk cnt c:=by
 obtain⟨C,v,rfl,h⟩:=h
 cases h with
 | clo f cs a hl hr =>
   intro c hc
   obtain⟨i,hi,rfl⟩:=List.getElem_of_mem hc
   exact⟨C,a[i]'(by omega),rfl,hr i _ _ (by simp[hi]) (by simp)⟩
section
variable {P:Program} {call:Nat→List AV→Option AV} {st st':St}
def HeapEq (st st':St):Prop:=∀ s g,g < st.cnt s→st'.heap s g=st.heap s g
theorem readAt_congr {x:AV} (hx:IdOk st.cnt x) (hh:HeapEq st st'):readAt st' x=readAt st x:=by
 cases x<;>simp only[readAt]
 rw[hh _ _ hx.ptr]
theorem sliceView_congr {x:AV} (hx:IdOk st.cnt x) (hh:HeapEq st st'):sliceView st' x=sliceView st x:=by
 cases x
 case own=>simp only[sliceView,hh _ _ hx.own]
 case vw=>simp only[sliceView,hh _ _ hx.vw]
 case v y =>
  cases y
  case slice p n c=>cases p<;>cases n<;>cases c<;>rfl
  all_goals rfl
 all_goals rfl
theorem indexAddrA_congr {T:Nat} {x i:AV} (hx:IdOk st.cnt x) (hh:HeapEq st st'):indexAddrA P st' T x i=indexAddrA P st T x i:=by
 unfold indexAddrA
 cases x<;>try rfl
 simp only[hh _ _ hx.own]
theorem sliceA_congr {T:Nat} {x:AV} {lo hi:Option Operand} (hx:IdOk st.cnt x) (hh:HeapEq st st') (hl:∀ p,lo=some p→st'.ev p=st.ev p) (hi':∀ p,hi=some p→st'.ev p=st.ev p):sliceA P st' T x lo hi=sliceA P st T x lo hi:=by
 cases lo with
 | none=>cases hi with
   | none =>
     unfold sliceA
     cases x
     case own=>simp only[hh _ _ hx.own]
     case v y =>
      cases y
      case slice p n c=>cases p<;>cases n<;>cases c<;>rfl
      all_goals rfl
     all_goals rfl
   | some h =>
     have e:=hi' h rfl
     unfold sliceA
     simp only[e]
     cases x
     case own=>simp only[hh _ _ hx.own]
     case v y =>
      cases y
      case slice p n c=>cases p<;>cases n<;>cases c<;>rfl
      all_goals rfl
     all_goals rfl
 | some l=>cases hi with
   | none =>
     have e2:=hl l rfl
     unfold sliceA
     simp only[e2]
     cases x
     case own=>simp only[hh _ _ hx.own]
     case v y =>
      cases y
      case slice p n c=>cases p<;>cases n<;>cases c<;>rfl
      all_goals rfl
     all_goals rfl
   | some h =>
     have e:=hi' h rfl
     have e2:=hl l rfl
     unfold sliceA
     simp only[e,e2]
     cases x
     case own=>simp only[hh _ _ hx.own]
     case v y =>
      cases y
      case slice p n c=>cases p<;>cases n<;>cases c<;>rfl
      all_goals rfl
     all_goals rfl
theorem expo1_congr {x:AV} (hx:IdOk st.cnt x) (hh:HeapEq st st'):expo1 st' x=expo1 st x:=by
 unfold expo1
 cases x<;>try rfl
 ·simp only[hh _ _ hx.ptr]
 ·simp only[hh _ _ hx.own]
 ·simp only[hh _ _ hx.vw]
theorem expo_congr {x:AV} (hx:IdOk st.cnt x) (hh:HeapEq st st'):expo st' x=expo st x:=by
 unfold expo
 cases x<;>try (simp only[expo1_congr hx hh];done)
 ·rename_i cs
  have:cs.map (expo1 st')=cs.map (expo1 st):=List.map_congr_left fun c hc=>expo1_congr (hx.agg c hc) hh
  simp only[this]
 ·rename_i f cs
  have:cs.map (expo1 st')=cs.map (expo1 st):=List.map_congr_left fun c hc=>expo1_congr (hx.clo c hc) hh
  simp only[this]
theorem storeA_congr {T:Nat} {x y:AV} (hx:IdOk st.cnt x) (hh:HeapEq st st'):storeA P st' T x y=storeA P st T x y:=by
 unfold storeA
 cases x<;>try rfl
 simp only[hh _ _ hx.ptr]
theorem appendA_congr {T:Nat} {s x:AV} (hs:IdOk st.cnt s) (hx:IdOk st.cnt x) (hh:HeapEq st st'):appendA P st' T s x=appendA P st T s x:=by
 unfold appendA
 simp only[sliceView_congr hx hh]
 cases s
 case own=>simp only[hh _ _ hs.own]
 case v y =>
  cases y
  case slice p n c=>cases p<;>cases n<;>cases c<;>rfl
  all_goals rfl
 all_goals rfl
theorem lookA_congr {T:Nat} {m x:AV} {ok:Bool} (hm:IdOk st.cnt m) (hh:HeapEq st st'):lookA P st' T m x ok=lookA P st T m x ok:=by
 unfold lookA
 cases m<;>try rfl
 simp only[hh _ _ hm.mp]
theorem mapSetA_congr {T:Nat} {m x y:AV} (hm:IdOk st.cnt m) (hh:HeapEq st st'):mapSetA P st' T m x y=mapSetA P st T m x y:=by
 unfold mapSetA
 cases m<;>try rfl
 simp only[hh _ _ hm.mp]
theorem putRes_congr {r:AV} {dst:Option Nat} (hc:∀ d,dst=some d→st'.cnt d=st.cnt d):putRes r st' dst=putRes r st dst:=by
 unfold putRes
 cases dst with
 | none=>rfl
 | some d=>simp only[hc d rfl]
theorem callFn_congr {g:Nat} {args:List AV} {dst:Option Nat} (hx:∀ x∈args,IdOk st.cnt x) (hh:HeapEq st st') (hc:∀ d,dst=some d→st'.cnt d=st.cnt d):callFn call g args st' dst=callFn call g args st dst:=by
 unfold callFn
 have:args.map (expo st')=args.map (expo st):=List.map_congr_left fun x hx'=>expo_congr (hx x hx') hh
 rw[this]
 have h2:∀ r,putRes r st' dst=putRes r st dst:=fun r=>putRes_congr hc
 simp only[h2]
theorem callMv_congr {g:Nat} {args:List AV} {dst:Option Nat} (hx:∀ x∈args,IdOk st.cnt x) (hh:HeapEq st st') (hc:∀ d,dst=some d→st'.cnt d=st.cnt d):callMv call g args st' dst=callMv call g args st dst:=by
 unfold callMv
 split
 ·rename_i s k rest
  rw[hh _ _ (hx _ (List.mem_cons_self ..)).own]
  cases dst with
  | none=>rfl
  | some d=>simp only[hc d rfl]
 ·rw[callFn_congr hx hh hc]
theorem callEat_congr {g:Nat} {args:List AV} {dst:Option Nat} (hx:∀ x∈args,IdOk st.cnt x) (hh:HeapEq st st') (hc:∀ d,dst=some d→st'.cnt d=st.cnt d):callEat call g args st' dst=callEat call g args st dst:=by
 have h1:=callFn_congr (call:=call) (g:=g) hx hh hc
 have:args.map (expo st')=args.map (expo st):=List.map_congr_left fun x hx'=>expo_congr (hx x hx') hh
 unfold callEat
 rw[this,h1]
 have h2:∀ r s k,eatRes r st' dst s k=eatRes r st dst s k:=fun r s k=>by
  unfold eatRes
  cases dst with
  | none=>cases r<;>rfl
  | some d=>cases r<;>simp only[hc d rfl]
 simp only[h2]
theorem ev_parts {parts:List (Nat × Operand)} (h:∀ p∈parts,st'.ev p.2=st.ev p.2):(parts.map fun p=>(p.1,st'.ev p.2))=parts.map fun p=>(p.1,st.ev p.2) :=
 List.map_congr_left fun p hp=>by rw[h p hp]
theorem ev_stor {parts:List (Nat × Operand)} (h:∀ p∈parts,st'.ev p.2=st.ev p.2):(parts.all fun p=>(st'.ev p.2).stor)=parts.all fun p=>(st.ev p.2).stor:=by
 induction parts with
 | nil=>rfl
 | cons p ps ih =>
   simp only[List.all_cons]
   rw[h p (by simp),ih fun q hq=>h q (by simp[hq])]
theorem asFn_caps {cnt:Nat→Nat} {x:AV} {g:Nat} {caps:List AV} (h:asFn x=some (g,caps)) (hx:IdOk cnt x):∀ c∈caps,IdOk cnt c:=by
 unfold asFn at h
 split at h
 ·split at h
  ·simp only[Option.some.injEq,Prod.mk.injEq] at h
   obtain⟨rfl,rfl⟩:=h
   simp
  ·cases h
 ·simp only[Option.some.injEq,Prod.mk.injEq] at h
  obtain⟨rfl,rfl⟩:=h
  exact hx.clo
 ·cases h
variable [Ext]
theorem callEff_congr {c:Call} {dst:Option Nat} (he:∀ p∈c.operands,st'.ev p=st.ev p) (hi:∀ p∈c.operands,IdOk st.cnt (st.ev p)) (hh:HeapEq st st') (hc:∀ d,dst=some d→st'.cnt d=st.cnt d) :
 callEff P call c dst st'=callEff P call c dst st:=by
 have hargs:∀ p∈c.args.toList,p∈c.operands:=fun p hp=>by simp[Call.operands];right;simpa using hp
 unfold callEff
 split
 ·rename_i f hf
  have hfo:f∈c.operands:=by simp[Call.operands,hf]
  have hm:c.args.toList.map st'.ev=c.args.toList.map st.ev:=List.map_congr_left fun p hp=>he p (hargs p hp)
  have hia:∀ x∈c.args.toList.map st.ev,IdOk st.cnt x:=fun x hx=>by
   obtain⟨p,hp,rfl⟩:=List.mem_map.1 hx
   exact hi p (hargs p hp)
  unfold callVal
  rw[hm]
  split
  ·split
   ·exact callMv_congr hia hh hc
   ·split
    ·exact callEat_congr hia hh hc
    ·exact callFn_congr hia hh hc
  ·rw[he f hfo]
   cases h:asFn (st.ev f) with
   | none=>rfl
   | some gc =>
     obtain⟨g,caps⟩:=gc
     refine callFn_congr (fun x hx=>?_) hh hc
     rcases List.mem_append.1 hx with hx | hx
     ·exact hia x hx
     ·exact asFn_caps h (hi f hfo) x hx
 ·split
  ·rename_i x T hx hT
   have hxo:=hargs x (by rw[hx];simp)
   rw[he x hxo,sliceView_congr (hi x hxo) hh]
  ·rfl
 ·split
  ·rename_i x y hx
   rw[he x (hargs x (by rw[hx];simp)),he y (hargs y (by rw[hx];simp))]
  ·rfl
 ·split
  ·rename_i x y hx
   rw[he x (hargs x (by rw[hx];simp)),he y (hargs y (by rw[hx];simp))]
  ·rfl
 ·cases dst with
  | none=>rfl
  | some d =>
  simp only[bnd]
  split
  ·rename_i s x T T' hx hT
   have hso:=hargs s (by rw[hx];simp)
   have hxo:=hargs x (by rw[hx];simp)
   have hn:nilApp P st' T (st'.ev s) (st'.ev x)=nilApp P st T (st.ev s) (st.ev x):=by simp only[nilApp,he s hso,he x hxo,sliceView_congr (hi x hxo) hh]
   rw[hn,he s hso,he x hxo,appendA_congr (hi s hso) (hi x hxo) hh,hc d rfl]
  ·rfl
 ·rfl
theorem opEff_congr {o:Oper} (he:∀ p∈o.op.operands,st'.ev p=st.ev p) (hi:∀ p∈o.op.operands,IdOk st.cnt (st.ev p)) (hh:HeapEq st st') (hc:∀ d,o.dst=some d→st'.cnt d=st.cnt d) :
 opEff P call o st'=opEff P call o st:=by
 obtain⟨dst,op,type,pos,after,guard⟩:=o
 cases op<;>simp only[opEff,opVal,Op.operands] at *
 case call c=>exact callEff_congr he hi hh hc
 case alloc T=>cases dst with
  | none=>rfl
  | some d=>simp only[bnd,hc d rfl]
 case box T x=>cases dst with
  | none=>rfl
  | some d=>simp only[bnd,hc d rfl,he x (by simp)]
 case buildSlice T n parts =>
  have he':∀ p∈parts.toList,st'.ev p.2=st.ev p.2:=fun p hp=>he p.2 (by simp;exact⟨p.1,by simpa using hp⟩)
  rw[ev_parts he',ev_stor he']
  cases dst with
  | none=>rfl
  | some d=>simp only[bnd,hc d rfl]
 case makeSlice T l c =>
  rw[he l (by simp),he c (by simp)]
  cases dst with
  | none=>rfl
  | some d=>simp only[bnd,hc d rfl]
 case makeMap T r =>
  cases r with
  | none=>cases dst with
    | none=>rfl
    | some d=>simp only[bnd,hc d rfl]
  | some r=>rfl
 case mapUpdate T m x y=>rw[he m (by simp),he x (by simp),he y (by simp),mapSetA_congr (hi m (by simp)) hh]
 case lookup T m x ok=>rw[he m (by simp),he x (by simp),lookA_congr (hi m (by simp)) hh]
 case store T x y=>rw[he x (by simp),he y (by simp),storeA_congr (hi x (by simp)) hh]
 case move x=>rw[he x (by simp)]
 case assign x=>rw[he x (by simp)]
 case pick c x y=>rw[he c (by simp),he x (by simp),he y (by simp)]
 case binOp op T x y yT=>rw[he x (by simp),he y (by simp)]
 case unOp op T x=>rw[he x (by simp)]
 case convert s d x=>rw[he x (by simp)]
 case nilCheck x=>rw[he x (by simp)]
 case field T x f=>rw[he x (by simp)]
 case fieldAddr T x f=>rw[he x (by simp)]
 case indexAddr T x i=>rw[he x (by simp),he i (by simp),indexAddrA_congr (hi x (by simp)) hh]
 case load T x=>rw[he x (by simp),readAt_congr (hi x (by simp)) hh]
 case extract t i=>rw[he t (by simp)]
 case build T parts =>
  have he':∀ p∈parts.toList,st'.ev p.2=st.ev p.2:=fun p hp=>he p.2 (by simp;exact⟨p.1,by simpa using hp⟩)
  unfold buildA
  rw[ev_parts he',ev_stor he']
 case slice T x lo hi' mx =>
  cases mx with
  | some m =>
    cases hi' with
    | none=>rfl
    | some h =>
      simp only
      unfold sliceA3
      rw[he x (by simp),he h (by simp),he m (by simp)]
      cases lo with
      | none=>rfl
      | some l=>simp only[he l (by simp)]
  | none =>
    simp only
    rw[he x (by simp),sliceA_congr (hi x (by simp)) hh (fun p hp=>he p (by simp[hp])) (fun p hp=>he p (by simp[hp]))]
 case makeFunc fn first captured =>
  cases fn with
  | func f =>
    simp only
    have:captured.toList.map st'.ev=captured.toList.map st.ev:=List.map_congr_left fun p hp=>he p (by simp;right;simpa using hp)
    rw[this]
  | _=>rfl
theorem opEff_congr0 {ops:Array Oper} {o:Oper} (hcl:opClass ops o=0∨opClass ops o=2) (he:∀ p∈o.op.operands,st'.ev p=st.ev p) (hc:∀ d,o.dst=some d→st'.cnt d=st.cnt d) :
 opEff P call o st'=opEff P call o st:=by
 obtain⟨dst,op,type,pos,after,guard⟩:=o
 cases op<;>simp only[opEff,opVal,Op.operands,opClass] at *
 case call c =>
  exfalso
  obtain⟨callee,args,ats⟩:=c
  cases callee with
  | builtin b=>cases b<;>simp at hcl;split at hcl<;>simp at hcl
  | value f=>cases f<;>simp at hcl;split at hcl<;>(try split at hcl)<;>(try split at hcl)<;>simp at hcl
  | _=>simp at hcl
 case alloc T=>cases dst with
  | none=>rfl
  | some d=>simp only[bnd,hc d rfl]
 case box T x=>cases dst with
  | none=>rfl
  | some d=>simp only[bnd,hc d rfl,he x (by simp)]
 case buildSlice T n parts =>
  have he':∀ p∈parts.toList,st'.ev p.2=st.ev p.2:=fun p hp=>he p.2 (by simp;exact⟨p.1,by simpa using hp⟩)
  rw[ev_parts he',ev_stor he']
  cases dst with
  | none=>rfl
  | some d=>simp only[bnd,hc d rfl]
 case makeSlice T l c =>
  rw[he l (by simp),he c (by simp)]
  cases dst with
  | none=>rfl
  | some d=>simp only[bnd,hc d rfl]
 case makeMap T r =>
  cases r with
  | none=>cases dst with
    | none=>rfl
    | some d=>simp only[bnd,hc d rfl]
  | some r=>rfl
 case mapUpdate T m x y=>simp at hcl
 case lookup T m x ok=>simp at hcl
 case store T x y=>simp at hcl
 case move x=>rw[he x (by simp)]
 case assign x=>rw[he x (by simp)]
 case pick c x y=>rw[he c (by simp),he x (by simp),he y (by simp)]
 case binOp op T x y yT=>rw[he x (by simp),he y (by simp)]
 case unOp op T x=>rw[he x (by simp)]
 case convert s d x=>rw[he x (by simp)]
 case nilCheck x=>rw[he x (by simp)]
 case field T x f=>rw[he x (by simp)]
 case fieldAddr T x f=>rw[he x (by simp)]
 case indexAddr T x i=>simp at hcl
 case load T x=>simp at hcl
 case extract t i=>rw[he t (by simp)]
 case build T parts =>
  have he':∀ p∈parts.toList,st'.ev p.2=st.ev p.2:=fun p hp=>he p.2 (by simp;exact⟨p.1,by simpa using hp⟩)
  unfold buildA
  rw[ev_parts he',ev_stor he']
 case slice T x lo hi' mx=>simp at hcl
 case makeFunc fn first captured =>
  cases fn with
  | func f =>
    simp only
    have:captured.toList.map st'.ev=captured.toList.map st.ev:=List.map_congr_left fun p hp=>he p (by simp;right;simpa using hp)
    rw[this]
  | _=>rfl
end
end Go.Ab
end
section
namespace Go.Ab
open Classical
section
variable {P:Program} {call:Nat→List AV→Option AV} {st st':St} {ops:Array Oper}
theorem putRes_shape {r:AV} {dst:Option Nat} {e:Eff} (h:putRes r st dst=some e):e.dst=dst∧e.upd=none∧∀ d x,e.new=some (d,x)→dst=some d:=by
 unfold putRes at h
 split at h
 ·simp only[Option.some.injEq] at h;subst h;exact⟨rfl,rfl,fun d x h=>by simp at h⟩
 ·cases dst with
  | none=>cases h
  | some d=>simp only[Option.some.injEq] at h;subst h;exact⟨rfl,rfl,fun d x h=>by simp at h;rw[h.1]⟩
theorem callFn_shape {g:Nat} {args:List AV} {dst:Option Nat} {e:Eff} (h:callFn call g args st dst=some e):e.dst=dst∧e.upd=none∧∀ d x,e.new=some (d,x)→dst=some d:=by
 unfold callFn at h
 split at h
 ·cases hc:call g args with
  | none=>simp[hc,bnd] at h
  | some r=>simp only[hc,bnd] at h;exact putRes_shape h
 ·split at h
  ·rename_i xs _
   cases hc:call g xs with
   | none=>simp[hc,bnd] at h
   | some r =>
     simp only[hc,bnd] at h
     split at h
     ·exact putRes_shape h
     ·cases h
  ·cases h
theorem callMv_shape {g:Nat} {args:List AV} {dst:Option Nat} {e:Eff} (h:callMv call g args st dst=some e):e.dst=dst∧(∀ d x,e.new=some (d,x)→dst=some d)∧∀ s k x,e.upd=some (s,k,x)→args.head? = some (.own s k):=by
 unfold callMv at h
 split at h
 ·split at h
  ·split at h
   ·split at h
    ·cases dst with
     | none=>cases h
     | some d =>
       simp only[Option.some.injEq] at h;subst h
       exact⟨rfl,fun d x h=>by simp at h;rw[h.1],fun s k x h=>by simp at h;simp[h.1,h.2.1]⟩
    ·simp only[Option.some.injEq] at h;subst h
     exact⟨rfl,fun d x h=>by simp at h,fun s k x h=>by simp at h;simp[h.1,h.2.1]⟩
    ·cases h
   ·cases h
  ·cases h
 ·split at h
  ·obtain⟨h1,h2,h3⟩:=callFn_shape h
   exact⟨h1,h3,fun s k x h=>by rw[h2] at h;cases h⟩
  ·cases h
theorem callEat_shape {g:Nat} {args:List AV} {dst:Option Nat} {e:Eff} (h:callEat call g args st dst=some e):e.dst=dst∧(∀ d x,e.new=some (d,x)→dst=some d)∧∀ s k x,e.upd=some (s,k,x)→∃ y∈args,y=.own s k∨∃ cs,y=.agg cs∧.own s k∈cs:=by
 unfold callEat at h
 split at h
 ·rename_i s k hk
  split at h
  ·split at h
   ·rename_i xs _
    cases hc:call g xs with
    | none=>simp[hc,bnd] at h
    | some r =>
      simp only[hc,bnd] at h
      have hu:e.upd=some (s,k,none)∧e.dst=dst∧∀ d x,e.new=some (d,x)→dst=some d:=by
       rcases eatRes_cases h with ⟨_,rfl⟩ | ⟨_,e1,sz,n,cs,d,rfl,rfl,_,rfl⟩
       ·exact⟨rfl,rfl,fun d x h=>by simp at h⟩
       ·exact⟨rfl,rfl,fun d x h=>by simp at h;rw[h.1]⟩
      ·refine⟨hu.2.1,hu.2.2,fun s' k' x h=>?_⟩
       rw[hu.1] at h
       simp only[Option.some.injEq,Prod.mk.injEq] at h
       obtain⟨rfl,rfl,_⟩:=h
       have hm:(s,k)∈args.flatMap ownKeys1:=by rw[hk];simp
       obtain⟨y,hy,hyk⟩:=List.mem_flatMap.1 hm
       refine⟨y,hy, ?_⟩
       have key:∀ c,(s,k)∈ownKey c→c=.own s k:=fun c hc=>by
        cases c<;>simp[ownKey] at hc
        obtain⟨rfl,rfl⟩:=hc
        rfl
       cases y with
       | agg cs =>
         obtain⟨c,hc,hck⟩:=List.mem_flatMap.1 (show (s,k)∈cs.flatMap ownKey from hyk)
         exact .inr ⟨cs,rfl,by rw[← key c hck];exact hc⟩
       | own a b=>exact .inl (key _ hyk)
       | _=>simp[ownKeys1,ownKey] at hyk
   ·cases h
  ·cases h
 ·obtain⟨h1,h2,h3⟩:=callFn_shape h
  exact⟨h1,h3,fun s k x h=>by rw[h2] at h;cases h⟩
theorem apply_env (e:Eff) (t:Nat):(e.apply st).env t=if e.dst=some t then e.val else st.env t:=by
 have h2:∀ (s1:St),(s1.put e.dst e.val).env t=if e.dst=some t then e.val else s1.env t:=fun s1=>by
  cases hd:e.dst with
  | none=>simp[St.put]
  | some d =>
    simp only[St.put,Option.some.injEq]
    by_cases h:t=d
    ·subst h;simp
    ·rw[if_neg h,if_neg (fun h'=>h h'.symm)]
 unfold Eff.apply
 rw[h2]
 cases e.upd<;>cases e.new<;>rfl
theorem apply_cnt (e:Eff) (s:Nat):(e.apply st).cnt s=match e.new with
 | some (d,es)=>if s=d then st.cnt d+es.length else st.cnt s
 | none=>st.cnt s:=by
 unfold Eff.apply
 rw[put_cnt]
 cases e.upd<;>cases e.new<;>rfl
theorem apply_heap (e:Eff) (s g:Nat):(e.apply st).heap s g=match e.new with
 | some (d,es)=>if s=d∧st.cnt d≤g∧g - st.cnt d < es.length then es[g - st.cnt d]? else (match e.upd with
   | some (s0,g0,y)=>if s=s0∧g=g0 then y else st.heap s g
   | none=>st.heap s g)
 | none=>(match e.upd with
   | some (s0,g0,y)=>if s=s0∧g=g0 then y else st.heap s g
   | none=>st.heap s g):=by
 unfold Eff.apply
 rw[put_heap]
 cases e.upd<;>cases e.new<;>rfl
theorem gv_congr {o:Oper} (h:∀ j want d,o.guard=some (j,want)→(ops[j]?).bind (·.dst)=some d→st'.env d=st.env d):gv ops st' o.guard=gv ops st o.guard:=by
 unfold gv
 cases hg:o.guard with
 | none=>rfl
 | some jw =>
   obtain⟨j,want⟩:=jw
   simp only
   cases hd:(ops[j]?).bind (·.dst) with
   | none=>rfl
   | some d=>simp only[h j want d hg hd]
theorem st_ext {a b:St} (h1:a.env=b.env) (h2:a.heap=b.heap) (h3:a.cnt=b.cnt):a=b:=by
 cases a;cases b;simp_all
variable [Ext]
theorem opEff_shape {o:Oper} {e:Eff} (h:opEff P call o st=some e) :
 e.dst=o.dst∧(∀ d x,e.new=some (d,x)→o.dst=some d)∧(∀ s g x,e.upd=some (s,g,x)→opClass ops o=3∧∃ p∈o.op.operands,(∃ off,st.ev p=.ptr s g off)∨st.ev p=.own s g∨st.ev p=.mp s g∨∃ cs,st.ev p=.agg cs∧.own s g∈cs):=by
 obtain⟨dst,op,type,pos,after,guard⟩:=o
 have val:∀ x:Option AV,(x.map fun y=>({ dst:=dst,val:=y }:Eff))=some e→e.dst=dst∧(∀ d x,e.new=some (d,x)→dst=some d)∧(∀ s g x,e.upd≠some (s,g,x)):=fun x h=>by
  cases x with
  | none=>simp at h
  | some y=>simp at h;subst h;exact⟨rfl,fun d x h=>by simp at h,fun s g x h=>by simp at h⟩
 cases op
 case call c =>
  simp only[opEff] at h
  unfold callEff at h
  split at h
  ·rename_i f hc
   unfold callVal at h
   split at h
   ·rename_i g
    split at h
    ·rename_i hmv
     obtain⟨h1,h2,h3⟩:=callMv_shape h
     refine⟨h1,h2,fun s k x hu=>?_⟩
     have hh:=h3 s k x hu
     obtain⟨callee,args,ats⟩:=c
     simp only at hc hh
     subst hc
     cases hl:args.toList with
     | nil=>rw[hl] at hh;simp at hh
     | cons p ps =>
       rw[hl] at hh
       simp only[List.map_cons,List.head?_cons,Option.some.injEq] at hh
       refine⟨?_,p, ?_,.inr (.inl hh)⟩
       ·simp only[opClass,hl,hmv]
        cases p with
        | const v=>simp[St.ev] at hh
        | _=>simp
       simp only[Op.operands,Call.operands]
       simp
       right
       rw[← Array.mem_toList_iff,hl]
       simp
    ·split at h
     ·rename_i heat
      obtain⟨h1,h2,h3⟩:=callEat_shape h
      refine⟨h1,h2,fun s k x hu=>?_⟩
      obtain⟨y,hy,hyo⟩:=h3 s k x hu
      obtain⟨callee,args,ats⟩:=c
      simp only at hc hy
      subst hc
      refine⟨by simp[opClass,heat], ?_⟩
      obtain⟨p,hp,rfl⟩:=List.mem_map.1 hy
      refine⟨p, ?_, ?_⟩
      ·simp only[Op.operands,Call.operands]
       simp
       right
       simpa using hp
      ·rcases hyo with h | ⟨cs,h,hm⟩
       ·exact .inr (.inl h)
       ·exact .inr (.inr (.inr ⟨cs,h,hm⟩))
     ·obtain⟨h1,h2,h3⟩:=callFn_shape h
      exact⟨h1,h3,fun s g x h=>by rw[h2] at h;cases h⟩
   ·split at h
    ·obtain⟨h1,h2,h3⟩:=callFn_shape h
     exact⟨h1,h3,fun s g x h=>by rw[h2] at h;cases h⟩
    ·cases h
  ·split at h
   ·split at h
    ·simp only[Option.some.injEq] at h;subst h;exact⟨rfl,fun d x h=>by simp at h,fun s g x h=>by simp at h⟩
    ·cases h
   ·cases h
  ·split at h
   ·split at h
    ·simp only[Option.some.injEq] at h;subst h;exact⟨rfl,fun d x h=>by simp at h,fun s g x h=>by simp at h⟩
    ·cases h
   ·cases h
  ·split at h
   ·split at h
    ·simp only[Option.some.injEq] at h;subst h;exact⟨rfl,fun d x h=>by simp at h,fun s g x h=>by simp at h⟩
    ·cases h
   ·cases h
  ·rename_i hc
   cases dst with
   | none=>simp[bnd] at h
   | some d =>
     simp only[bnd] at h
     split at h
     ·rename_i s x T T' hx hT
      split at h
      ·split at h
       ·simp only[Option.some.injEq] at h
        subst h
        exact⟨rfl,nofun,nofun⟩
       cases hap:appendA P st T (st.ev s) (st.ev x) with
       | none=>simp[hap] at h
       | some ur =>
         obtain⟨u,r⟩:=ur
         simp only[hap,Option.some.injEq] at h
         subst h
         refine⟨rfl,fun d x h=>by simp at h;rw[h.1],fun s' g' x' hu=>?_⟩
         simp only[Option.map_eq_some_iff] at hu
         obtain⟨⟨s2,g2⟩,hu1,hu2⟩:=hu
         simp only[Prod.mk.injEq] at hu2
         obtain⟨rfl,rfl,rfl⟩:=hu2
         subst hu1
         have hown:st.ev s=.own s2 g2:=by
          unfold appendA at hap
          split at hap
          ·split at hap
           ·split at hap
            ·split at hap
             ·split at hap<;>simp at hap
             ·rename_i s3 g3 hs3
              split at hap
              ·split at hap
               ·simp only[Option.some.injEq,Prod.mk.injEq] at hap
                obtain⟨⟨rfl,rfl⟩,_⟩:=hap
                exact hs3
               ·cases hap
              ·cases hap
             ·split at hap<;>simp at hap
             ·cases hap
            ·cases hap
           ·cases hap
          ·cases hap
         refine⟨?_,s, ?_,.inr (.inl hown)⟩
         ·obtain⟨callee,args,ats⟩:=c
          simp only at hc hx
          subst hc
          simp only[opClass,hx]
          cases s with
          | const v =>
            simp[St.ev] at hown
          | _=>rfl
         ·simp only[Op.operands,Call.operands,hc]
          simp
          rw[← Array.mem_toList_iff,hx]
          simp
      ·cases h
     ·cases h
  ·cases h
 case store T x y =>
  simp only[opEff] at h
  cases hs:storeA P st T (st.ev x) (st.ev y) with
  | none=>simp[hs] at h
  | some u =>
    obtain⟨s,g,e'⟩:=u
    simp only[hs,Option.map_some,Option.some.injEq] at h
    subst h
    refine⟨rfl,fun d x h=>by simp at h,fun s' g' x' hu=>⟨rfl,x,by simp[Op.operands],.inl ?_⟩⟩
    simp only[Option.some.injEq,Prod.mk.injEq] at hu
    obtain⟨rfl,rfl,_⟩:=hu
    unfold storeA at hs
    split at hs
    ·rename_i s1 g1 o1 hp
     refine⟨o1, ?_⟩
     rw[hp]
     split at hs
     ·split at hs
      ·split at hs
       ·split at hs
        ·simp only[Option.some.injEq,Prod.mk.injEq] at hs;rw[hs.1,hs.2.1]
        ·cases hs
       ·split at hs
        ·simp only[Option.some.injEq,Prod.mk.injEq] at hs;rw[hs.1,hs.2.1]
        ·cases hs
       ·cases hs
      ·cases hs
     ·cases hs
    ·cases hs
 case alloc T =>
  simp only[opEff] at h
  cases dst with
  | none=>simp[bnd] at h
  | some d=>cases hz:zeroL P T with
    | none=>simp[hz,bnd] at h
    | some z=>simp only[hz,bnd,Option.some.injEq] at h;subst h;exact⟨rfl,fun d x h=>by simp at h;rw[h.1],fun s g x h=>by simp at h⟩
 case box T x =>
  simp only[opEff] at h
  cases dst with
  | none=>simp[bnd] at h
  | some d =>
    simp only[bnd] at h
    split at h
    ·simp only[Option.some.injEq] at h;subst h;exact⟨rfl,fun d x h=>by simp at h;rw[h.1],fun s g x h=>by simp at h⟩
    ·cases h
 case buildSlice T n parts =>
  simp only[opEff] at h
  cases dst with
  | none=>simp[bnd] at h
  | some d=>cases hs:slInfo P T with
    | none=>simp[hs,bnd] at h
    | some t=>cases hz:zeroL P t.1 with
      | none=>simp[hs,hz,bnd] at h
      | some z =>
        simp only[hs,hz,bnd] at h
        split at h
        ·cases hf:fillA (fun i=>some (i * t.2.1,t.2.1)) ((List.range n).flatMap fun _=>z.map .v) (parts.toList.map fun p=>(p.1,st.ev p.2)) with
         | none=>simp[hf] at h
         | some cs=>simp only[hf,Option.some.injEq] at h;subst h;exact⟨rfl,fun d x h=>by simp at h;rw[h.1],fun s g x h=>by simp at h⟩
        ·cases h
 case makeSlice T l c =>
  simp only[opEff] at h
  cases dst with
  | none=>simp[bnd] at h
  | some d=>cases hs:slInfo P T with
    | none=>simp[hs,bnd] at h
    | some t=>cases hz:zeroL P t.1 with
      | none=>simp[hs,hz,bnd] at h
      | some z =>
        simp only[hs,hz,bnd] at h
        split at h
        ·split at h
         ·simp only[Option.some.injEq] at h;subst h;exact⟨rfl,fun d x h=>by simp at h;rw[h.1],fun s g x h=>by simp at h⟩
         ·cases h
        ·cases h
 case makeMap T r =>
  cases r with
  | none =>
    simp only[opEff] at h
    cases dst with
    | none=>simp[bnd] at h
    | some d=>simp only[bnd,Option.some.injEq] at h;subst h;exact⟨rfl,fun d x h=>by simp at h;rw[h.1],fun s g x h=>by simp at h⟩
  | some r =>
    simp only[opEff] at h
    obtain⟨h1,h2,h3⟩:=val _ h
    exact⟨h1,h2,fun s g x hu=>absurd hu (h3 s g x)⟩
 case mapUpdate T m x y =>
  simp only[opEff] at h
  cases hs:mapSetA P st T (st.ev m) (st.ev x) (st.ev y) with
  | none=>simp[hs] at h
  | some u =>
    obtain⟨s,g,e'⟩:=u
    simp only[hs,Option.map_some,Option.some.injEq] at h
    subst h
    refine⟨rfl,fun d x h=>by simp at h,fun s' g' x' hu=>⟨rfl,m,by simp[Op.operands],.inr (.inr (.inl ?_))⟩⟩
    simp only[Option.some.injEq,Prod.mk.injEq] at hu
    obtain⟨rfl,rfl,_⟩:=hu
    unfold mapSetA at hs
    split at hs
    ·rename_i s1 g1 hp
     rw[hp]
     split at hs
     ·split at hs
      ·simp only[Option.some.injEq,Prod.mk.injEq] at hs;rw[hs.1,hs.2.1]
      ·cases hs
     ·cases hs
    ·cases hs
 all_goals
  simp only[opEff] at h
  obtain⟨h1,h2,h3⟩:=val _ h
  exact⟨h1,h2,fun s g x hu=>absurd hu (h3 s g x)⟩
noncomputable def evEff (P:Program) (call:Nat→List AV→Option AV) (ops:Array Oper) (o:Oper) (st:St):Option Eff :=
 match gv ops st o.guard with
 | some b=>if b=true then opEff P call o st else some { dst:=o.dst,val:=.v undef }
 | none=>none
theorem evOp_eq (o:Oper):evOp P call ops o st=(evEff P call ops o st).map fun e=>e.apply st:=by
 unfold evOp evEff
 cases gv ops st o.guard with
 | none=>rfl
 | some b=>cases b<;>rfl
theorem evEff_shape {o:Oper} {e:Eff} (h:evEff P call ops o st=some e) :
 e.dst=o.dst∧(∀ d x,e.new=some (d,x)→o.dst=some d)∧(∀ s g x,e.upd=some (s,g,x)→opClass ops o=3∧∃ p∈o.op.operands,(∃ off,st.ev p=.ptr s g off)∨st.ev p=.own s g∨st.ev p=.mp s g∨∃ cs,st.ev p=.agg cs∧.own s g∈cs):=by
 unfold evEff at h
 split at h
 ·split at h
  ·exact opEff_shape h
  ·simp only[Option.some.injEq] at h;subst h;exact⟨rfl,fun d x h=>by simp at h,fun s g x h=>by simp at h⟩
 ·cases h
theorem evEff_other {x y:Oper} {ex:Eff} (hap:apartOk ops x y=true∨apartOk ops y x=true) (hid:∀ t,IdOk st.cnt (st.env t)) (hx:evEff P call ops x st=some ex) :
 evEff P call ops y (ex.apply st)=evEff P call ops y st:=by
 obtain⟨sd,sn,su⟩:=evEff_shape hx
 have hlook:(∀ d,x.dst=some d→d ∉ y.looksAt ops)∧(∀ d,x.dst=some d→y.dst≠some d):=by
  rcases hap with h | h
  ·simp only[apartOk,Bool.and_eq_true] at h
   obtain⟨h1,h2,_⟩:=Oper.apart_spec h.1
   exact⟨h1,h2⟩
  ·simp only[apartOk,Bool.and_eq_true] at h
   obtain⟨_,h2,h3⟩:=Oper.apart_spec h.1
   exact⟨h3,fun d hd hy=>h2 d hy hd⟩
 have henv:∀ t,t∈y.looksAt ops→(ex.apply st).env t=st.env t:=fun t ht=>by
  rw[apply_env,if_neg]
  intro h
  rw[sd] at h
  exact hlook.1 t h ht
 have hev:∀ p∈y.op.operands,(ex.apply st).ev p=st.ev p:=fun p hp=>by
  cases p with
  | tmp t=>exact henv t (by unfold Oper.looksAt;exact List.mem_append_left _ (List.mem_filterMap.2 ⟨.tmp t,by simpa using hp,rfl⟩))
  | _=>rfl
 have hgv:gv ops (ex.apply st) y.guard=gv ops st y.guard:=gv_congr fun j want d hg hd=>henv d (by
  unfold Oper.looksAt
  apply List.mem_append_right
  rw[hg]
  simp[hd])
 have hcnt:∀ d,y.dst=some d→(ex.apply st).cnt d=st.cnt d:=fun d hd=>by
  rw[apply_cnt]
  split
  ·rename_i d' z hn
   have:=sn d' z hn
   rw[if_neg]
   rintro rfl
   exact hlook.2 d this hd
  ·rfl
 have hidp:∀ p∈y.op.operands,IdOk st.cnt (st.ev p):=fun p hp=>by
  cases p with
  | tmp t=>exact hid t
  | const v=>exact⟨⟨fun _ _=>False,fun _ _=>undef,st.cnt⟩,v,rfl,.v v⟩
  | global g=>exact⟨⟨fun _ _=>False,fun _ _=>undef,st.cnt⟩,_,rfl,.v _⟩
  | func f=>exact⟨⟨fun _ _=>False,fun _ _=>undef,st.cnt⟩,_,rfl,.v _⟩
 have hop:opEff P call y (ex.apply st)=opEff P call y st:=by
  by_cases h3:opClass ops x=3
  ·refine opEff_congr0 (ops:=ops) ?_ hev hcnt
   have hle:opClass ops y=0∨opClass ops y=1∨opClass ops y=2∨opClass ops y=3∨opClass ops y=4:=by
    unfold opClass
    split<;>(try split)<;>(try split)<;>(try split)<;>simp
   rcases hap with h | h<;>simp only[apartOk,Bool.and_eq_true,h3] at h<;>rcases hle with e | e | e | e | e<;>simp[e] at h ⊢
  ·have hnu:ex.upd=none:=by
    cases hu:ex.upd with
    | none=>rfl
    | some sgx=>exact absurd (su sgx.1 sgx.2.1 sgx.2.2 hu).1 h3
   refine opEff_congr hev hidp (fun s g hlt=>?_) hcnt
   rw[apply_heap,hnu]
   split
   ·rename_i d z hn
    rw[if_neg]
    rintro⟨rfl,h,_⟩
    omega
   ·rfl
 unfold evEff
 rw[hgv,hop]
theorem upd_id {o:Oper} {e:Eff} {s g:Nat} {z:Option Ent} (hid:∀ t,IdOk st.cnt (st.env t)) (h:evEff P call ops o st=some e) (hu:e.upd=some (s,g,z)):g < st.cnt s:=by
 obtain⟨_,_,su⟩:=evEff_shape h
 obtain⟨_,p,hp,hv⟩:=su s g z hu
 have hidp:IdOk st.cnt (st.ev p):=by
  cases p with
  | tmp t=>exact hid t
  | const v=>exact⟨⟨fun _ _=>False,fun _ _=>undef,st.cnt⟩,v,rfl,.v v⟩
  | global g=>exact⟨⟨fun _ _=>False,fun _ _=>undef,st.cnt⟩,_,rfl,.v _⟩
  | func f=>exact⟨⟨fun _ _=>False,fun _ _=>undef,st.cnt⟩,_,rfl,.v _⟩
 rcases hv with ⟨off,hv⟩ | hv | hv | ⟨cs,hv,hm⟩
 ·rw[hv] at hidp;exact hidp.ptr
 ·rw[hv] at hidp;exact hidp.own
 ·rw[hv] at hidp;exact hidp.mp
 ·rw[hv] at hidp;exact (hidp.agg _ hm).own
theorem ev_comm {x y:Oper} (hap:apartOk ops x y=true) (hid:∀ t,IdOk st.cnt (st.env t)) {s1 s2:St} (hx:evOp P call ops x st=some s1) (hy:evOp P call ops y s1=some s2) :
 ∃ s3,evOp P call ops y st=some s3∧evOp P call ops x s3=some s2:=by
 rw[evOp_eq] at hx hy
 cases hex:evEff P call ops x st with
 | none=>simp[hex] at hx
 | some ex =>
   simp only[hex,Option.map_some,Option.some.injEq] at hx
   subst hx
   rw[evEff_other (.inl hap) hid hex] at hy
   cases hey:evEff P call ops y st with
   | none=>simp[hey] at hy
   | some ey =>
     simp only[hey,Option.map_some,Option.some.injEq] at hy
     subst hy
     refine⟨ey.apply st,by rw[evOp_eq,hey];rfl, ?_⟩
     rw[evOp_eq,evEff_other (.inr hap) hid hey,hex]
     simp only[Option.map_some,Option.some.injEq]
     obtain⟨dx,nx,ux⟩:=evEff_shape hex
     obtain⟨dy,ny,uy⟩:=evEff_shape hey
     have hd:∀ d,x.dst=some d→y.dst≠some d:=by
      simp only[apartOk,Bool.and_eq_true] at hap
      exact (Oper.apart_spec hap.1).2.1
     have hcl:¬ (ex.upd≠none∧ey.upd≠none):=by
      rintro⟨h1,h2⟩
      cases hu:ex.upd with
      | none=>exact h1 hu
      | some a=>cases hv:ey.upd with
        | none=>exact h2 hv
        | some b =>
          have e1:=(ux a.1 a.2.1 a.2.2 hu).1
          have e2:=(uy b.1 b.2.1 b.2.2 hv).1
          simp[apartOk,e1,e2] at hap
     apply st_ext
     ·funext t
      rw[apply_env,apply_env,apply_env,apply_env,dx,dy]
      by_cases h1:x.dst=some t
      ·rw[if_pos h1,if_pos h1,if_neg (hd t h1)]
      ·rw[if_neg h1,if_neg h1]
     ·funext s g
      rw[apply_heap,apply_heap,apply_heap,apply_heap]
      have cx:∀ d z,ey.new=some (d,z)→(ex.apply st).cnt d=st.cnt d:=fun d z hn=>by
       rw[apply_cnt]
       split
       ·rename_i d' z' hn'
        rw[if_neg]
        rintro rfl
        exact hd _ (nx _ _ hn') (ny _ _ hn)
       ·rfl
      have cy:∀ d z,ex.new=some (d,z)→(ey.apply st).cnt d=st.cnt d:=fun d z hn=>by
       rw[apply_cnt]
       split
       ·rename_i d' z' hn'
        rw[if_neg]
        rintro rfl
        exact hd _ (nx _ _ hn) (ny _ _ hn')
       ·rfl
      cases hnx:ex.new with
      | none =>
        cases hny:ey.new with
        | none =>
          cases hux:ex.upd with
          | none=>rfl
          | some a=>cases huy:ey.upd with
            | none=>rfl
            | some b=>exact absurd ⟨by rw[hux];simp,by rw[huy];simp⟩ hcl
        | some b =>
          obtain⟨d,z⟩:=b
          simp only[cx d z hny]
          cases hux:ex.upd with
          | none=>rfl
          | some a =>
            obtain⟨s0,g0,e0⟩:=a
            have hlt:=upd_id hid hex hux
            cases huy:ey.upd with
            | none =>
              simp only
              by_cases h1:s=d∧st.cnt d≤g∧g - st.cnt d < z.length
              ·rw[if_neg (by obtain⟨rfl,ha,hb⟩:=h1;rintro⟨rfl,rfl⟩;omega),if_pos h1,if_pos h1]
              ·rw[if_neg h1,if_neg h1]
            | some b=>exact absurd ⟨by rw[hux];simp,by rw[huy];simp⟩ hcl
      | some a =>
        obtain⟨d,z⟩:=a
        cases hny:ey.new with
        | none =>
          simp only[cy d z hnx]
          cases huy:ey.upd with
          | none=>rfl
          | some a =>
            obtain⟨s0,g0,e0⟩:=a
            have hlt:=upd_id hid hey huy
            cases hux:ex.upd with
            | none =>
              simp only
              by_cases h1:s=d∧st.cnt d≤g∧g - st.cnt d < z.length
              ·rw[if_pos h1,if_neg (by obtain⟨rfl,ha,hb⟩:=h1;rintro⟨rfl,rfl⟩;omega),if_pos h1]
              ·rw[if_neg h1,if_neg h1]
            | some b=>exact absurd ⟨by rw[hux];simp,by rw[huy];simp⟩ hcl
        | some b =>
          obtain⟨d',z'⟩:=b
          simp only[cy d z hnx,cx d' z' hny]
          have hdd:d≠d':=by
           rintro rfl
           exact hd _ (nx _ _ hnx) (ny _ _ hny)
          cases hux:ex.upd with
          | none =>
            cases huy:ey.upd with
            | none =>
              simp only
              by_cases h1:s=d∧st.cnt d≤g∧g - st.cnt d < z.length
              ·rw[if_pos h1,if_pos h1,if_neg (fun h=>hdd (h1.1.symm.trans h.1))]
              ·rw[if_neg h1,if_neg h1]
            | some b =>
              obtain⟨s0,g0,e0⟩:=b
              have hlt:=upd_id hid hey huy
              simp only
              by_cases h1:s=d∧st.cnt d≤g∧g - st.cnt d < z.length
              ·rw[if_pos h1,if_pos h1,if_neg (fun h=>hdd (h1.1.symm.trans h.1)),if_neg (by obtain⟨rfl,ha,hb⟩:=h1;rintro⟨rfl,rfl⟩;omega)]
              ·rw[if_neg h1,if_neg h1]
          | some a =>
            obtain⟨s0,g0,e0⟩:=a
            have hlt:=upd_id hid hex hux
            cases huy:ey.upd with
            | none =>
              simp only
              by_cases h1:s=d∧st.cnt d≤g∧g - st.cnt d < z.length
              ·rw[if_pos h1,if_pos h1,if_neg (fun h=>hdd (h1.1.symm.trans h.1))]
              ·rw[if_neg h1,if_neg h1]
               by_cases h2:s=d'∧st.cnt d'≤g∧g - st.cnt d' < z'.length
               ·rw[if_pos h2,if_neg (by obtain⟨rfl,ha,hb⟩:=h2;rintro⟨rfl,rfl⟩;omega),if_pos h2]
               ·rw[if_neg h2,if_neg h2]
            | some b=>exact absurd ⟨by rw[hux];simp,by rw[huy];simp⟩ hcl
     ·funext s
      cases hnx:ex.new with
      | none=>cases hny:ey.new<;>simp only[apply_cnt,hnx,hny]
      | some a =>
        obtain⟨d,z⟩:=a
        cases hny:ey.new with
        | none=>simp only[apply_cnt,hnx,hny]
        | some b =>
          obtain⟨d',z'⟩:=b
          have hdd:d≠d':=by
           rintro rfl
           exact hd _ (nx _ _ hnx) (ny _ _ hny)
          simp only[apply_cnt,hnx,hny]
          rw[if_neg hdd,if_neg (Ne.symm hdd)]
          by_cases h1:s=d
          ·subst h1;rw[if_neg hdd,if_pos rfl,if_neg hdd]
          ·rw[if_neg h1,if_neg h1]
def KeyEq (st st':St) (x:AV):Prop:=∀ s g,keyOf x=some (some (s,g))→st'.heap s g=st.heap s g
theorem readAt_key {x:AV} (h:KeyEq st st' x):readAt st' x=readAt st x:=by
 cases x<;>simp only[readAt]
 rw[h _ _ rfl]
theorem sliceView_key {x:AV} (h:KeyEq st st' x):sliceView st' x=sliceView st x:=by
 cases x
 case own=>simp only[sliceView,h _ _ rfl]
 case vw=>simp only[sliceView,h _ _ rfl]
 case v y =>
  cases y
  case slice p n c=>cases p<;>cases n<;>cases c<;>rfl
  all_goals rfl
 all_goals rfl
theorem indexAddrA_key {T:Nat} {x i:AV} (h:KeyEq st st' x):indexAddrA P st' T x i=indexAddrA P st T x i:=by
 unfold indexAddrA
 cases x<;>try rfl
 simp only[h _ _ rfl]
theorem storeA_key {T:Nat} {x y:AV} (h:KeyEq st st' x):storeA P st' T x y=storeA P st T x y:=by
 unfold storeA
 cases x<;>try rfl
 simp only[h _ _ rfl]
theorem sliceA_key {T:Nat} {x:AV} {lo hi:Option Operand} (hx:KeyEq st st' x) (hl:∀ p,lo=some p→st'.ev p=st.ev p) (hi':∀ p,hi=some p→st'.ev p=st.ev p):sliceA P st' T x lo hi=sliceA P st T x lo hi:=by
 cases lo with
 | none=>cases hi with
   | none =>
     unfold sliceA
     cases x
     case own=>simp only[hx _ _ rfl]
     case v y =>
      cases y
      case slice p n c=>cases p<;>cases n<;>cases c<;>rfl
      all_goals rfl
     all_goals rfl
   | some h =>
     have e:=hi' h rfl
     unfold sliceA
     simp only[e]
     cases x
     case own=>simp only[hx _ _ rfl]
     case v y =>
      cases y
      case slice p n c=>cases p<;>cases n<;>cases c<;>rfl
      all_goals rfl
     all_goals rfl
 | some l=>cases hi with
   | none =>
     have e2:=hl l rfl
     unfold sliceA
     simp only[e2]
     cases x
     case own=>simp only[hx _ _ rfl]
     case v y =>
      cases y
      case slice p n c=>cases p<;>cases n<;>cases c<;>rfl
      all_goals rfl
     all_goals rfl
   | some h =>
     have e:=hi' h rfl
     have e2:=hl l rfl
     unfold sliceA
     simp only[e,e2]
     cases x
     case own=>simp only[hx _ _ rfl]
     case v y =>
      cases y
      case slice p n c=>cases p<;>cases n<;>cases c<;>rfl
      all_goals rfl
     all_goals rfl
theorem appendA_key {T:Nat} {s x:AV} (hs:KeyEq st st' s) (hx:KeyEq st st' x):appendA P st' T s x=appendA P st T s x:=by
 unfold appendA
 rw[sliceView_key hx]
 cases s
 case own=>simp only[hs _ _ rfl]
 case v y =>
  cases y
  case slice p n c=>cases p<;>cases n<;>cases c<;>rfl
  all_goals rfl
 all_goals rfl
theorem putRes_key {r:AV} {dst:Option Nat} (hc:∀ d,dst=some d→st'.cnt d=st.cnt d):putRes r st' dst=putRes r st dst:=by
 unfold putRes
 cases dst with
 | none=>rfl
 | some d=>simp only[hc d rfl]
theorem callMv_key {g:Nat} {x:AV} {args:List AV} {dst:Option Nat} (hx:KeyEq st st' x) (hc:∀ d,dst=some d→st'.cnt d=st.cnt d):callMv call g (x :: args) st' dst=callMv call g (x :: args) st dst:=by
 unfold callMv
 split
 ·rename_i s k rest heq
  simp only[List.cons.injEq] at heq
  obtain⟨rfl,rfl⟩:=heq
  rw[hx _ _ rfl]
  cases dst with
  | none=>rfl
  | some d=>simp only[hc d rfl]
 ·split
  ·rename_i hf
   unfold callFn
   rw[if_pos hf,if_pos hf]
   have h2:∀ r,putRes r st' dst=putRes r st dst:=fun r=>putRes_key hc
   simp only[h2]
  ·rfl
theorem keyRegs_guard {o:Oper} {aS:List Nat} (h:keyRegs o=some aS):o.guard=none:=by
 unfold keyRegs at h
 split at h
 ·cases h
 ·assumption
theorem mem_eff {o:Oper} {aS:List Nat} (ha:keyRegs o=some aS):evEff P call ops o st=opEff P call o st:=by
 unfold evEff
 rw[keyRegs_guard ha]
 rfl
inductive KeyOp:Op→List Nat→Prop
 | load (T a:Nat):KeyOp (.load T (.tmp a)) [a]
 | store (T a:Nat) (x:Operand):KeyOp (.store T (.tmp a) x) [a]
 | indexAddr (T a:Nat) (x:Operand):KeyOp (.indexAddr T (.tmp a) x) [a]
 | slice (T a:Nat) (lo hi mx:Option Operand):KeyOp (.slice T (.tmp a) lo hi mx) [a]
 | len (a:Nat) (args:Array Operand) (ats:Array Nat) (h:args.toList=[.tmp a]):KeyOp (.call ⟨.builtin .len,args,ats⟩) [a]
 | append (a b:Nat) (args:Array Operand) (ats:Array Nat) (h:args.toList=[.tmp a,.tmp b]):KeyOp (.call ⟨.builtin .append,args,ats⟩) [a,b]
 | mv (g a:Nat) (r:List Operand) (args:Array Operand) (ats:Array Nat) (h:args.toList=.tmp a :: r) (hg:Ext.mv g=true):KeyOp (.call ⟨.value (.func g),args,ats⟩) [a]
theorem keyRegs_spec {o:Oper} {aS:List Nat} (h:keyRegs o=some aS):KeyOp o.op aS:=by
 unfold keyRegs at h
 split at h
 ·cases h
 ·split at h
  ·rename_i T a ho;simp only[Option.some.injEq] at h;subst h;rw[ho];exact .load T a
  ·rename_i T a x ho;simp only[Option.some.injEq] at h;subst h;rw[ho];exact .store T a x
  ·rename_i T a x ho;simp only[Option.some.injEq] at h;subst h;rw[ho];exact .indexAddr T a x
  ·rename_i T a lo hi mx ho;simp only[Option.some.injEq] at h;subst h;rw[ho];exact .slice T a lo hi mx
  ·rename_i args ats ho
   split at h
   ·rename_i a hl;simp only[Option.some.injEq] at h;subst h;rw[ho];exact .len a args ats hl
   ·cases h
  ·rename_i args ats ho
   split at h
   ·rename_i a b hl;simp only[Option.some.injEq] at h;subst h;rw[ho];exact .append a b args ats hl
   ·cases h
  ·rename_i g args ats ho
   split at h
   ·rename_i a r hl
    split at h
    ·rename_i hg;simp only[Option.some.injEq] at h;subst h;rw[ho];exact .mv g a r args ats hl hg
    ·cases h
   ·cases h
  ·cases h
theorem storeA_at {T s g:Nat} {p x:AV} {e':Ent} (hs:storeA P st T p x=some (s,g,e')):∃ o,p=.ptr s g o:=by
 unfold storeA at hs
 split at hs
 ·rename_i s1 g1 o1
  split at hs
  ·split at hs
   ·split at hs
    ·split at hs
     ·simp only[Option.some.injEq,Prod.mk.injEq] at hs;obtain⟨rfl,rfl,_⟩:=hs;exact⟨_,rfl⟩
     ·cases hs
    ·split at hs
     ·simp only[Option.some.injEq,Prod.mk.injEq] at hs;obtain⟨rfl,rfl,_⟩:=hs;exact⟨_,rfl⟩
     ·cases hs
    ·cases hs
   ·cases hs
  ·cases hs
 ·cases hs
theorem appendA_at {T s g:Nat} {p x:AV} {r:Ent} (hap:appendA P st T p x=some (some (s,g),r)):p=.own s g:=by
 unfold appendA at hap
 split at hap
 ·split at hap
  ·split at hap
   ·split at hap
    ·split at hap<;>simp at hap
    ·rename_i s3 g3
     split at hap
     ·split at hap
      ·simp only[Option.some.injEq,Prod.mk.injEq] at hap
       obtain⟨⟨rfl,rfl⟩,_⟩:=hap
       rfl
      ·cases hap
     ·cases hap
    ·split at hap<;>simp at hap
    ·cases hap
   ·cases hap
  ·cases hap
 ·cases hap
theorem mem_shape {o:Oper} {aS:List Nat} {e:Eff} (ha:keyRegs o=some aS) (h:evEff P call ops o st=some e) :
 ∀ s g z,e.upd=some (s,g,z)→∃ a∈aS,keyOf (st.env a)=some (some (s,g)):=by
 rw[mem_eff ha] at h
 have hk:=keyRegs_spec ha
 clear ha
 obtain⟨dst,op,type,pos,after,guard⟩:=o
 have val:∀ (v:Option AV),(v.map fun x=>({ dst:=dst,val:=x }:Eff))=some e→e.upd=none:=fun v hv=>by
  cases v with
  | none=>cases hv
  | some v=>simp only[Option.map_some,Option.some.injEq] at hv;subst hv;rfl
 intro s g z hu
 cases hk
 case load T a=>simp only[opEff] at h;rw[val _ h] at hu;cases hu
 case indexAddr T a x=>simp only[opEff] at h;rw[val _ h] at hu;cases hu
 case slice T a lo hi mx=>simp only[opEff] at h;rw[val _ h] at hu;cases hu
 case len a args ats hl =>
  simp only[opEff,callEff,hl] at h
  split at h
  ·split at h
   ·simp only[Option.some.injEq] at h;subst h;cases hu
   ·cases h
  ·cases h
 case store T a x =>
  simp only[opEff] at h
  cases hs:storeA P st T (st.ev (.tmp a)) (st.ev x) with
  | none=>simp[hs] at h
  | some u =>
    obtain⟨s',g',e'⟩:=u
    simp only[hs,Option.map_some,Option.some.injEq] at h
    subst h
    simp only[Option.some.injEq,Prod.mk.injEq] at hu
    obtain⟨rfl,rfl,_⟩:=hu
    obtain⟨o1,ho1⟩:=storeA_at hs
    exact⟨a,by simp,by rw[show st.env a=st.ev (.tmp a) from rfl,ho1];rfl⟩
 case append a b args ats hl =>
  simp only[opEff,callEff,hl] at h
  cases dst with
  | none=>simp[bnd] at h
  | some d =>
    simp only[bnd] at h
    split at h
    ·rename_i s0 x0 T T' heq _
     simp only[List.cons.injEq,and_true] at heq
     obtain⟨rfl,rfl⟩:=heq
     split at h
     ·split at h
      ·simp only[Option.some.injEq] at h
       subst h
       cases hu
      cases hap:appendA P st T (st.ev (.tmp a)) (st.ev (.tmp b)) with
      | none=>simp[hap] at h
      | some ur =>
        obtain⟨u,r⟩:=ur
        simp only[hap,Option.some.injEq] at h
        subst h
        cases u with
        | none=>cases hu
        | some p =>
          simp only[Option.map_some,Option.some.injEq,Prod.mk.injEq] at hu
          obtain⟨rfl,rfl,_⟩:=hu
          exact⟨a,by simp,by rw[show st.env a=st.ev (.tmp a) from rfl,appendA_at hap];rfl⟩
     ·cases h
    ·cases h
 case mv g' a r args ats hl hg =>
  simp only[opEff,callEff,callVal] at h
  rw[if_pos hg] at h
  obtain⟨_,_,h3⟩:=callMv_shape h
  have:=h3 s g z hu
  rw[hl] at this
  simp only[List.map_cons,List.head?_cons,Option.some.injEq,St.ev] at this
  exact⟨a,by simp,by rw[this];rfl⟩
theorem mem_congr {o:Oper} {aS:List Nat} (ha:keyRegs o=some aS) (hev:∀ p∈o.op.operands,st'.ev p=st.ev p) (hh:∀ a∈aS,KeyEq st st' (st.env a)) (hc:∀ d,o.dst=some d→st'.cnt d=st.cnt d) :
 evEff P call ops o st'=evEff P call ops o st:=by
 rw[mem_eff ha,mem_eff ha]
 have hk:=keyRegs_spec ha
 clear ha
 obtain⟨dst,op,type,pos,after,guard⟩:=o
 simp only at hk hev hc
 cases hk
 case load T a =>
  have h1:st'.env a=st.env a:=hev (.tmp a) (by simp[Op.operands])
  simp only[opEff,opVal,St.ev,h1,readAt_key (hh a (by simp))]
 case store T a x =>
  have h1:st'.env a=st.env a:=hev (.tmp a) (by simp[Op.operands])
  have h2:=hev x (by simp[Op.operands])
  have h3:st'.ev (.tmp a)=st.ev (.tmp a):=h1
  simp only[opEff,h2,h3]
  rw[show st.ev (.tmp a)=st.env a from rfl,storeA_key (hh a (by simp))]
 case indexAddr T a x =>
  have h1:st'.env a=st.env a:=hev (.tmp a) (by simp[Op.operands])
  have h2:=hev x (by simp[Op.operands])
  have h3:st'.ev (.tmp a)=st.ev (.tmp a):=h1
  simp only[opEff,opVal,h2,h3]
  rw[show st.ev (.tmp a)=st.env a from rfl,indexAddrA_key (hh a (by simp))]
 case slice T a lo hi mx =>
  have h1:st'.env a=st.env a:=hev (.tmp a) (by simp[Op.operands])
  have h3:st'.ev (.tmp a)=st.ev (.tmp a):=h1
  have hl:∀ p,lo=some p→st'.ev p=st.ev p:=fun p hp=>hev p (by subst hp;simp[Op.operands])
  have hi':∀ p,hi=some p→st'.ev p=st.ev p:=fun p hp=>hev p (by subst hp;simp[Op.operands])
  have hm:∀ p,mx=some p→st'.ev p=st.ev p:=fun p hp=>hev p (by subst hp;simp[Op.operands])
  have hS:=sliceA_key (P:=P) (T:=T) (hh a (by simp)) hl hi'
  cases mx with
  | none =>
    simp only[opEff,opVal,h3]
    rw[show st.ev (.tmp a)=st.env a from rfl,hS]
  | some m =>
    cases hi with
    | none=>rfl
    | some h =>
      simp only[opEff,opVal,h3]
      unfold sliceA3
      rw[hi' h rfl,hm m rfl]
      cases lo with
      | none=>rfl
      | some l=>simp only[hl l rfl]
 case len a args ats hl =>
  have h1:st'.env a=st.env a:=hev (.tmp a) (by simp[Op.operands,Call.operands,← Array.mem_toList_iff,hl])
  have h3:st'.ev (.tmp a)=st.ev (.tmp a):=h1
  have hv:sliceView st' (st'.ev (.tmp a))=sliceView st (st.ev (.tmp a)):=by rw[h3];exact sliceView_key (hh a (by simp))
  simp only[opEff,callEff,hl]
  cases ats.toList with
  | nil=>rfl
  | cons T r=>cases r with
    | nil=>simp only[hv]
    | cons _ _=>rfl
 case append a b args ats hl =>
  have h1:st'.ev (.tmp a)=st.ev (.tmp a):=hev (.tmp a) (by simp[Op.operands,Call.operands,← Array.mem_toList_iff,hl])
  have h2:st'.ev (.tmp b)=st.ev (.tmp b):=hev (.tmp b) (by simp[Op.operands,Call.operands,← Array.mem_toList_iff,hl])
  have hA:∀ T,appendA P st' T (st.ev (.tmp a)) (st.ev (.tmp b))=appendA P st T (st.ev (.tmp a)) (st.ev (.tmp b)):=fun T=>appendA_key (hh a (by simp)) (hh b (by simp))
  simp only[opEff,callEff,hl]
  cases dst with
  | none=>rfl
  | some d =>
    simp only[bnd,hc d rfl]
    cases ats.toList with
    | nil=>rfl
    | cons T r=>cases r with
      | nil=>rfl
      | cons T' r'=>cases r' with
        | nil =>
          have hn:nilApp P st' T (st'.ev (.tmp a)) (st'.ev (.tmp b))=nilApp P st T (st.ev (.tmp a)) (st.ev (.tmp b)):=by
           have h3:sliceView st' (st.ev (.tmp b))=sliceView st (st.ev (.tmp b)):=sliceView_key (hh b (by simp))
           simp only[nilApp,h1,h2,h3]
          simp only[]
          rw[hn,h1,h2,hA]
        | cons _ _=>rfl
 case mv g' a r args ats hl hg =>
  have he:∀ p∈args.toList,st'.ev p=st.ev p:=fun p hp=>hev p (by simp[Op.operands,Call.operands,← Array.mem_toList_iff,hp])
  have h1:args.toList.map st'.ev=args.toList.map st.ev:=List.map_congr_left he
  simp only[opEff,callEff,callVal]
  rw[if_pos hg,if_pos hg,h1,hl]
  simp only[List.map_cons]
  exact callMv_key (hh a (by simp)) hc
theorem far_ne {x y:AV} (h:farApart x y∨farApart y x) {k k':Nat × Nat} (hx:keyOf x=some (some k)) (hy:keyOf y=some (some k')):k≠k':=by
 unfold farApart at h
 rw[hx,hy] at h
 rcases h with h | h
 ·exact h
 ·exact fun e=>h e.symm
theorem key_id {cnt:Nat→Nat} {x:AV} {s g:Nat} (h:IdOk cnt x) (hk:keyOf x=some (some (s,g))):g < cnt s:=by
 cases x<;>simp only[keyOf,Option.some.injEq,Prod.mk.injEq,reduceCtorEq] at hk
 ·obtain⟨rfl,rfl⟩:=hk;exact h.ptr
 ·obtain⟨rfl,rfl⟩:=hk;exact h.own
 ·obtain⟨rfl,rfl⟩:=hk;exact h.vw
theorem mem_other {x y:Oper} {aS bs:List Nat} {ex:Eff} (hid:∀ t,IdOk st.cnt (st.env t)) (hax:keyRegs x=some aS) (hay:keyRegs y=some bs) (hlook:∀ d,x.dst=some d→d ∉ y.looksAt ops) (hdst:∀ d,x.dst=some d→y.dst≠some d)
 (hf:∀ a∈aS,∀ b∈bs,farApart (st.env a) (st.env b)∨farApart (st.env b) (st.env a)) (hx:evEff P call ops x st=some ex):evEff P call ops y (ex.apply st)=evEff P call ops y st:=by
 obtain⟨sd,sn,_⟩:=evEff_shape hx
 have su:=mem_shape hax hx
 refine mem_congr hay (fun p hp=>?_) (fun b hb s g hk=>?_) fun d hd=>?_
 ·cases p with
  | tmp t =>
    show (ex.apply st).env t=st.env t
    rw[apply_env,if_neg]
    intro h
    rw[sd] at h
    exact hlook t h (by unfold Oper.looksAt;exact List.mem_append_left _ (List.mem_filterMap.2 ⟨.tmp t,by simpa using hp,rfl⟩))
  | _=>rfl
 ·have hlt:=key_id (hid b) hk
  have hupd:(match ex.upd with | some (s0,g0,y)=>if s=s0∧g=g0 then y else st.heap s g | none=>st.heap s g)=st.heap s g:=by
   cases hu:ex.upd with
   | none=>rfl
   | some u =>
     obtain⟨s0,g0,z⟩:=u
     obtain⟨a,ha,hka⟩:=su s0 g0 z hu
     simp only
     rw[if_neg]
     rintro⟨rfl,rfl⟩
     exact far_ne (hf a ha b hb) hka hk rfl
  rw[apply_heap]
  split
  ·rename_i d es hn
   rw[if_neg (by rintro⟨rfl,h,_⟩;omega)]
   exact hupd
  ·exact hupd
 ·rw[apply_cnt]
  split
  ·rename_i d' z hn
   rw[if_neg]
   rintro rfl
   exact hdst _ (sn _ _ hn) hd
  ·rfl
theorem ite_swap {α:Type} {A B C D:Prop} [Decidable A] [Decidable B] [Decidable C] [Decidable D] {na nb uc ud h:α} (h1:A→¬ B) (h2:A→¬ D) (h3:C→¬ B) (h4:C→¬ D) :
 (if B then nb else if D then ud else if A then na else if C then uc else h)=(if A then na else if C then uc else if B then nb else if D then ud else h):=by
 by_cases a:A
 ·rw[if_neg (h1 a),if_neg (h2 a),if_pos a,if_pos a]
 ·rw[if_neg a,if_neg a]
  by_cases c:C
  ·rw[if_neg (h3 c),if_neg (h4 c),if_pos c,if_pos c]
  ·rw[if_neg c,if_neg c]
def newHit (e:Eff) (cnt:Nat→Nat) (s g:Nat):Prop:=∃ d es,e.new=some (d,es)∧s=d∧cnt d≤g∧g - cnt d < es.length
def updHit (e:Eff) (s g:Nat):Prop:=∃ z,e.upd=some (s,g,z)
def newVal (e:Eff) (cnt:Nat→Nat) (g:Nat):Option Ent:=match e.new with | some (d,es)=>es[g - cnt d]? | none=>none
def updVal (e:Eff):Option Ent:=match e.upd with | some (_,_,z)=>z | none=>none
theorem apply_heapN (e:Eff) (st:St) (s g:Nat):(e.apply st).heap s g=if newHit e st.cnt s g then newVal e st.cnt g else if updHit e s g then updVal e else st.heap s g:=by
 have hu:(match e.upd with | some (s0,g0,y)=>if s=s0∧g=g0 then y else st.heap s g | none=>st.heap s g)=if updHit e s g then updVal e else st.heap s g:=by
  unfold updHit updVal
  cases hu:e.upd with
  | none=>simp
  | some u =>
    obtain⟨s0,g0,z⟩:=u
    simp only
    by_cases h:s=s0∧g=g0
    ·obtain⟨rfl,rfl⟩:=h
     rw[if_pos ⟨rfl,rfl⟩,if_pos ⟨z,rfl⟩]
    ·rw[if_neg h,if_neg]
     rintro⟨z',h'⟩
     simp only[Option.some.injEq,Prod.mk.injEq] at h'
     exact h ⟨h'.1.symm,h'.2.1.symm⟩
 rw[apply_heap]
 unfold newHit newVal
 cases hn:e.new with
 | none=>simp only;rw[if_neg (by rintro⟨d,es,h,_⟩;cases h)];exact hu
 | some p =>
   obtain⟨d,es⟩:=p
   simp only
   by_cases h:s=d∧st.cnt d≤g∧g - st.cnt d < es.length
   ·rw[if_pos h,if_pos ⟨d,es,rfl,h⟩]
   ·rw[if_neg h,if_neg]
    ·exact hu
    ·rintro⟨d',es',h',h2⟩
     simp only[Option.some.injEq,Prod.mk.injEq] at h'
     obtain⟨rfl,rfl⟩:=h'
     exact h h2
theorem ev_commD {x y:Oper} {aS bs:List Nat} (hid:∀ t,IdOk st.cnt (st.env t)) (hax:keyRegs x=some aS) (hay:keyRegs y=some bs) (hap:Oper.apart ops x y=true) (hf:farAll st aS bs) {s1 s2:St} (hx:evOp P call ops x st=some s1) (hy:evOp P call ops y s1=some s2) :
 ∃ s3,evOp P call ops y st=some s3∧evOp P call ops x s3=some s2:=by
 obtain⟨l1,l2,l3⟩:=Oper.apart_spec hap
 have l2':∀ d,y.dst=some d→x.dst≠some d:=fun d hd hx=>l2 d hx hd
 rw[evOp_eq] at hx hy
 cases hex:evEff P call ops x st with
 | none=>simp[hex] at hx
 | some ex =>
   simp only[hex,Option.map_some,Option.some.injEq] at hx
   subst hx
   rw[mem_other hid hax hay l1 l2 (fun a ha b hb=>.inl (hf a ha b hb)) hex] at hy
   cases hey:evEff P call ops y st with
   | none=>simp[hey] at hy
   | some ey =>
     simp only[hey,Option.map_some,Option.some.injEq] at hy
     subst hy
     refine⟨ey.apply st,by rw[evOp_eq,hey];rfl, ?_⟩
     rw[evOp_eq,mem_other hid hay hax l3 l2' (fun b hb a ha=>.inr (hf a ha b hb)) hey,hex]
     simp only[Option.map_some,Option.some.injEq]
     obtain⟨dx,nx,_⟩:=evEff_shape hex
     obtain⟨dy,ny,_⟩:=evEff_shape hey
     have ux:=mem_shape hax hex
     have uy:=mem_shape hay hey
     have cx:∀ d z,ey.new=some (d,z)→(ex.apply st).cnt d=st.cnt d:=fun d z hn=>by
      rw[apply_cnt]
      split
      ·rename_i d' z' hn'
       rw[if_neg]
       rintro rfl
       exact l2 _ (nx _ _ hn') (ny _ _ hn)
      ·rfl
     have cy:∀ d z,ex.new=some (d,z)→(ey.apply st).cnt d=st.cnt d:=fun d z hn=>by
      rw[apply_cnt]
      split
      ·rename_i d' z' hn'
       rw[if_neg]
       rintro rfl
       exact l2 _ (nx _ _ hn) (ny _ _ hn')
      ·rfl
     apply st_ext
     ·funext t
      rw[apply_env,apply_env,apply_env,apply_env,dx,dy]
      by_cases h1:x.dst=some t
      ·rw[if_pos h1,if_pos h1,if_neg (l2 t h1)]
      ·rw[if_neg h1,if_neg h1]
     ·funext s g
      have nyE:newHit ey (ex.apply st).cnt s g↔newHit ey st.cnt s g:=by
       constructor
       ·rintro⟨d,es,h,h2⟩;rw[cx d es h] at h2;exact⟨d,es,h,h2⟩
       ·rintro⟨d,es,h,h2⟩;rw[← cx d es h] at h2;exact⟨d,es,h,h2⟩
      have nxE:newHit ex (ey.apply st).cnt s g↔newHit ex st.cnt s g:=by
       constructor
       ·rintro⟨d,es,h,h2⟩;rw[cy d es h] at h2;exact⟨d,es,h,h2⟩
       ·rintro⟨d,es,h,h2⟩;rw[← cy d es h] at h2;exact⟨d,es,h,h2⟩
      have vyE:newVal ey (ex.apply st).cnt g=newVal ey st.cnt g:=by
       unfold newVal
       cases hn:ey.new with
       | none=>rfl
       | some p=>simp only[cx p.1 p.2 hn]
      have vxE:newVal ex (ey.apply st).cnt g=newVal ex st.cnt g:=by
       unfold newVal
       cases hn:ex.new with
       | none=>rfl
       | some p=>simp only[cy p.1 p.2 hn]
      rw[apply_heapN,apply_heapN,apply_heapN,apply_heapN]
      simp only[nyE,nxE,vyE,vxE]
      symm
      have idk:∀ a s g,keyOf (st.env a)=some (some (s,g))→g < st.cnt s:=fun a s g h=>key_id (hid a) h
      refine ite_swap ?_ ?_ ?_ ?_
      ·rintro⟨d,es,h,rfl,_⟩ ⟨d',es',h',rfl,_⟩
       exact l2 _ (nx _ _ h) (ny _ _ h')
      ·rintro⟨d,es,h,rfl,h1,_⟩ ⟨z,h'⟩
       obtain⟨b,_,hb⟩:=uy _ _ _ h'
       have:=idk b _ _ hb
       omega
      ·rintro⟨z,h⟩ ⟨d,es,h',rfl,h1,_⟩
       obtain⟨a,_,ha⟩:=ux _ _ _ h
       have:=idk a _ _ ha
       omega
      ·rintro⟨z,h⟩ ⟨z',h'⟩
       obtain⟨a,ha,hka⟩:=ux _ _ _ h
       obtain⟨b,hb,hkb⟩:=uy _ _ _ h'
       exact far_ne (.inl (hf a ha b hb)) hka hkb rfl
     ·funext s
      rw[apply_cnt,apply_cnt]
      cases hnx:ex.new with
      | none=>cases hny:ey.new<;>simp only[apply_cnt,hnx,hny]
      | some a =>
        obtain⟨d,z⟩:=a
        cases hny:ey.new with
        | none=>simp only[apply_cnt,hnx,hny]
        | some b =>
          obtain⟨d',z'⟩:=b
          have hdd:d≠d':=by
           rintro rfl
           exact l2 _ (nx _ _ hnx) (ny _ _ hny)
          simp only[apply_cnt,hnx,hny]
          rw[if_neg hdd,if_neg (Ne.symm hdd)]
          by_cases h1:s=d
          ·subst h1;rw[if_neg hdd,if_pos rfl,if_neg hdd]
          ·rw[if_neg h1,if_neg h1]
end
end Go.Ab
end
section
namespace Go.Ab
open Classical
variable [Ext]
def MaskGood (ops:Array Oper) (acc:Array Nat):Prop :=
 ∀ j o,j < acc.size→ops[j]? = some o→∀ k,(acc.getD j 0).testBit k=true→∃ e∈o.after,Region.binds .any e=true∧(e.on=k∨(acc.getD e.on 0).testBit k=true)
theorem mask_bits (acc:Array Nat) (k:Nat):∀ (l:List Edge) (s:Nat),(l.foldl (fun s e=>if Region.binds .any e=true then s ||| 2 ^ e.on ||| acc.getD e.on 0 else s) s).testBit k=true →
 s.testBit k=true∨∃ e∈l,Region.binds .any e=true∧(e.on=k∨(acc.getD e.on 0).testBit k=true)
 | [],s,h=>.inl h
 | e :: l,s,h=>by
   simp only[List.foldl_cons] at h
   rcases mask_bits acc k l _ h with h | ⟨e',he',h⟩
   ·split at h
    ·rename_i hb
     simp only[Nat.testBit_or,Bool.or_eq_true] at h
     rcases h with (h | h) | h
     ·exact .inl h
     ·rw[Nat.testBit_two_pow] at h
      exact .inr ⟨e,by simp,hb,.inl (by simpa using h)⟩
     ·exact .inr ⟨e,by simp,hb,.inr h⟩
    ·exact .inl h
   ·exact .inr ⟨e',by simp[he'],h⟩
theorem forced_eq {α:Type} (n:Nat) (k:Nat→α):forced n k=k n:=by cases n<;>rfl
theorem masks_good (ops:Array Oper):∀ (l:List Oper) (acc:Array Nat),(∀ i o,l[i]? = some o→ops[acc.size+i]? = some o)→MaskGood ops acc→MaskGood ops (masks l acc)
 | [],acc,_,h=>h
 | o :: l,acc,hl,h=>by
   unfold masks
   rw[forced_eq]
   refine masks_good ops l _ (fun i o' ho'=>?_) ?_
   ·have:=hl (i+1) o' (by simpa using ho')
    simp only[Array.size_push]
    rw[← this]
    congr 1
    omega
   ·intro j oj hj hoj k hk
    have keep:∀ x,(acc.getD x 0).testBit k=true→((acc.push (maskOf acc o)).getD x 0).testBit k=true:=fun x hx=>by
     have hlt:x < acc.size:=by
      rcases Nat.lt_or_ge x acc.size with h' | h'
      ·exact h'
      ·simp[Array.getElem?_eq_none h'] at hx
     simp only[Array.getD_eq_getD_getElem?,Array.getElem?_push_lt hlt] at hx ⊢
     simpa [hlt] using hx
    rcases Nat.lt_or_ge j acc.size with hlt | hge
    ·have hk':(acc.getD j 0).testBit k=true:=by
      simp only[Array.getD_eq_getD_getElem?,Array.getElem?_push_lt hlt] at hk ⊢
      simpa [hlt] using hk
     obtain⟨e,he,hb,hor⟩:=h j oj hlt hoj k hk'
     exact⟨e,he,hb,hor.imp id (keep _)⟩
    ·have hje:j=acc.size:=by simp only[Array.size_push] at hj;omega
     subst hje
     have ho:=hl 0 o (by simp)
     rw[Nat.add_zero,hoj] at ho
     cases ho
     have hk':(maskOf acc o).testBit k=true:=by simpa using hk
     rcases mask_bits acc k _ 0 hk' with h0 | ⟨e,he,hb,hor⟩
     ·simp at h0
     ·exact⟨e,by simpa using he,hb,hor.imp id (keep _)⟩
theorem pairsOk_spec {ops:Array Oper} {dy:List (Nat × Nat)} {b:Array Nat} {j:Nat} {oj:Oper}:∀ (l:List Oper) (i0:Nat),pairsOk ops dy b j oj l i0=true→∀ i oi,l[i]? = some oi→i0+i < j→(b.getD j 0).testBit (i0+i)=true∨(noI oi=true∧noI oj=true∧(apartOk ops oi oj=true∨((i0+i,j)∈dy∧swapSt ops b (i0+i) oi j oj=true)))
 | [],_,_,i,oi,h,_=>by simp at h
 | o :: l,i0,h,i,oi,ho,hlt=>by
   unfold pairsOk at h
   simp only[Bool.and_eq_true,Bool.or_eq_true,decide_eq_true_eq] at h
   cases i with
   | zero =>
     simp at ho
     subst ho
     rcases h.1 with (h | h) | ⟨⟨n1,n2⟩,h⟩
     ·omega
     ·exact .inl (by simpa using h)
     ·exact .inr ⟨n1,n2,h.imp id fun h=>⟨by simpa using h.1,by simpa using h.2⟩⟩
   | succ i =>
     have:=pairsOk_spec l (i0+1) h.2 i oi (by simpa using ho) (by omega)
     rw[show i0+(i+1)=i0+1+i by omega]
     exact this
theorem rowsOk_spec {ops:Array Oper} {dy:List (Nat × Nat)} {b:Array Nat}:∀ (l:List Oper) (j0:Nat),rowsOk ops dy b l j0=true→∀ j oj,l[j]? = some oj →
 (∀ e∈oj.after,Region.binds .any e=true→e.on < j0+j)∧pairsOk ops dy b (j0+j) oj ops.toList 0=true
 | [],_,_,j,oj,h=>by simp at h
 | o :: l,j0,h,j,oj,ho=>by
   unfold rowsOk at h
   simp only[Bool.and_eq_true] at h
   obtain⟨⟨h1,h2⟩,h3⟩:=h
   cases j with
   | zero =>
     simp at ho
     subst ho
     refine⟨fun e he hb=>?_,by simpa using h2⟩
     have:=List.all_eq_true.1 h1 e (by simpa using he)
     simpa [hb] using this
   | succ j =>
     have:=rowsOk_spec l (j0+1) h3 j oj (by simpa using ho)
     rw[show j0+(j+1)=j0+1+j by omega]
     exact this
structure DrawFacts (ops:Array Oper) (dy:List (Nat × Nat)) (b:Array Nat):Prop where
 good:MaskGood ops b
 size:b.size=ops.size
 lt:∀ j oj,ops[j]? = some oj→∀ e∈oj.after,Region.binds .any e=true→e.on < j
 apart:∀ i j oi oj,i < j→ops[i]? = some oi→ops[j]? = some oj→(b.getD j 0).testBit i=true∨(noI oi=true∧noI oj=true∧(apartOk ops oi oj=true∨((i,j)∈dy∧swapSt ops b i oi j oj=true)))
theorem masks_size:∀ (l:List Oper) (acc:Array Nat),(masks l acc).size=acc.size+l.length
 | [],acc=>rfl
 | o :: l,acc=>by
   unfold masks
   rw[forced_eq,masks_size l]
   simp
   omega
theorem drawOk_spec {ops:Array Oper} {dy:List (Nat × Nat)} (h:drawOk ops dy=true):∃ b,DrawFacts ops dy b:=by
 unfold drawOk at h
 refine⟨_,masks_good ops ops.toList #[] (fun i o ho=>by simpa using ho) (fun j o hj=>by simp at hj),by rw[masks_size];simp,fun j oj hoj=>?_,fun i j oi oj hij hoi hoj=>?_⟩
 ·have:=(rowsOk_spec _ 0 h j oj (by simpa using hoj)).1
  simpa using this
 ·have:=(rowsOk_spec _ 0 h j oj (by simpa using hoj)).2
  simp only[Nat.zero_add] at this
  have:=pairsOk_spec _ 0 this i oi (by simpa using hoi) (by omega)
  simpa using this
section
variable {P:Program} {call:Nat→List AV→Option AV} {ops:Array Oper} {nt:Nat} {Q:Exit→Act→World→Prop}
theorem gv_sound {h0:Nat→Obj→Prop} {w0:World} {F:Frm} {ρ:Nat→Nat→Value} {st:St} {a:Act} {w:World} (S:Sim F h0 w0 nt ρ st a w) {o:Oper} {b:Bool} (h:gv ops st o.guard=some b):Region.wanted o (yielded ops a.tmps)=b:=by
 unfold gv at h
 unfold Region.wanted
 cases hg:o.guard with
 | none=>simp[hg] at h;subst h;rfl
 | some jw =>
   obtain⟨j,want⟩:=jw
   simp only[hg] at h
   simp only
   cases hd:(ops[j]?).bind (·.dst) with
   | none =>
     simp[hd] at h
     subst h
     simp[yielded,hd]
   | some d =>
     simp only[hd] at h
     split at h
     ·rename_i x hx
      have hr:=S.env d
      rw[hx] at hr
      have hv:=relV_v hr
      rcases Nat.lt_or_ge d a.tmps.size with hlt | hge
      ·have hv':a.tmps[d]? = some x:=by
        simp[hlt] at hv ⊢
        exact hv
       simp only[yielded,hd,Option.bind_some,hv']
       split at h
       ·simp only[Option.some.injEq] at h
        rw[← h]
        simp
       ·simp only[Option.some.injEq] at h
        subst h
        rename_i hne
        cases x<;>first | rfl | exact absurd rfl (hne _)
      ·have hn:a.tmps[d]? = none:=Array.getElem?_eq_none hge
       have hu:x=undef:=by simpa [hn] using hv.symm
       subst hu
       simp[undef] at h
       subst h
       simp[yielded,hd,hn]
     ·cases h
theorem evOp_sound {h0:Nat→Obj→Prop} {w0:World} {F:Frm} {ρ:Nat→Nat→Value} {st st':St} {a:Act} {w:World} {K:Act→World→Prop} (S:Sim F h0 w0 nt ρ st a w) (hcall:CallOk P call) {i:Nat} {o:Oper}
 (hi:ops[i]? = some o) (hd:∀ d,o.dst=some d→d < nt) (h:evOp P call ops o st=some st')
 (hK:∀ ρ' a' w',Sim F h0 w0 nt ρ' st' a' w'→K a' w'):wpOp P ops Q i K a w:=by
 unfold wpOp
 simp only[hi]
 unfold evOp at h
 cases hg:gv ops st o.guard with
 | none=>simp[hg] at h
 | some b =>
   rw[gv_sound S hg]
   simp only[hg] at h
   cases b with
   | true =>
     simp only[if_true] at h ⊢
     cases he:opEff P call o st with
     | none=>simp[he] at h
     | some e =>
       simp only[he,Option.map_some,Option.some.injEq] at h
       subst h
       exact .inl (opEff_sound S hcall he hd hK)
   | false =>
     simp only[Bool.false_eq_true,if_false,Option.some.injEq] at h ⊢
     subst h
     exact hK ρ _ w (S.put o.dst hd (.v _))
theorem exists_of_wp {o:Oper} {a:Act} {w:World} {K:Act→World→Prop} (h:o.wp P a w K fun _ _ _=>False):∃ a' w',K a' w':=by
 unfold Oper.wp at h
 generalize (execOp a.eval o).run P w=r at h
 have hlet:¬ LetsOut (fun _ _ _=>False):=by rintro⟨_,_,h⟩;exact h
 cases r with
 | ok n w' =>
   cases n<;>simp only[Oper.upon] at h<;>(try exact⟨_,_,h⟩)<;>(try exact h.elim)
   ·obtain⟨e,w2,fr,hR,_⟩:=h []
    cases e with
    | returned v=>exact⟨_,_,hR⟩
    | panicked c=>exact hR.elim
    | outgrown=>exact absurd hR hlet
   ·obtain⟨v,w2,hR,_⟩:=h default []
    exact⟨_,_,hR⟩
 | halt x w'=>cases x<;>simp only[Oper.upon] at h
def Valid (nt:Nat) (st:St):Prop:=∃ (F:Frm) (h0:Nat→Obj→Prop) (w0:World) (ρ:Nat→Nat→Value) (a:Act) (w:World),Sim F h0 w0 nt ρ st a w
theorem Valid.ids {st:St} (h:Valid nt st):∀ t,IdOk st.cnt (st.env t):=by
 obtain⟨F,h0,w0,ρ,a,w,S⟩:=h
 exact fun t=>⟨ctx h0 w0 ρ st w,_,rfl,S.env t⟩
theorem Valid.step {st st':St} (h:Valid nt st) (hcall:CallOk P call) {o:Oper} (hd:∀ d,o.dst=some d→d < nt) (he:evOp P call ops o st=some st'):Valid nt st':=by
 obtain⟨F,h0,w0,ρ,a,w,S⟩:=h
 unfold evOp at he
 cases hg:gv ops st o.guard with
 | none=>simp[hg] at he
 | some b =>
   simp only[hg] at he
   cases b with
   | true =>
     simp only[if_true] at he
     cases hee:opEff P call o st with
     | none=>simp[hee] at he
     | some e =>
       simp only[hee,Option.map_some,Option.some.injEq] at he
       subst he
       obtain⟨a',w',ρ',S'⟩:=exists_of_wp (opEff_sound (Q:=fun _ _ _=>False) (K:=fun a' w'=>∃ ρ',Sim F h0 w0 nt ρ' (e.apply st) a' w') S hcall hee hd (fun ρ' a' w' h=>⟨ρ',h⟩))
       exact⟨F,h0,w0,ρ',a',w',S'⟩
   | false =>
     simp only[Bool.false_eq_true,if_false,Option.some.injEq] at he
     subst he
     exact⟨F,h0,w0,ρ,_,w,S.put o.dst hd (.v _)⟩
theorem wroteBefore_spec {b:Array Nat} {i a:Nat} {aS:List Nat} (ha:a∈aS):∀ (l:List Oper) (m0:Nat),wroteBefore b i aS l m0=true→∀ m o,l[m]? = some o→o.dst=some a→(b.getD i 0).testBit (m0+m)=true
 | [],_,_,m,o,h,_=>by simp at h
 | o' :: l,m0,h,m,o,ho,hd=>by
   unfold wroteBefore at h
   simp only[Bool.and_eq_true,Bool.or_eq_true] at h
   cases m with
   | zero =>
     simp at ho
     subst ho
     rcases h.1 with h | h
     ·rw[hd] at h;simp[ha] at h
     ·simpa using h
   | succ m =>
     have:=wroteBefore_spec ha l (m0+1) h.2 m o (by simpa using ho) hd
     rw[show m0+(m+1)=m0+1+m by omega]
     exact this
theorem SwapsOk.mem {s:St}:∀ {l:List (Nat × Nat)},SwapsOk ops s l→∀ p∈l,SwapAt ops s p
 | p :: l,h,q,hq=>by
   rcases List.mem_cons.1 hq with rfl | hq
   ·exact h.1
   ·exact h.2.mem q hq
structure Left (ops:Array Oper) (listed:Array Bool) (l:List Nat):Prop where
 size:listed.size=ops.size
 mem:∀ j,j∈l↔j < ops.size∧listed.getD j true=false
 sorted:l.Pairwise (· < ·)
 closed:∀ j o,ops[j]? = some o→listed.getD j false=true→∀ e∈o.after,Region.binds .any e=true→listed.getD e.on false=true
theorem DrawFacts.bit_lt {dy:List (Nat × Nat)} {b:Array Nat} (D:DrawFacts ops dy b):∀ (j:Nat) o,ops[j]? = some o→∀ k,(b.getD j 0).testBit k=true→k < j:=by
 intro j
 induction j using Nat.strongRecOn with
 | _ j ih =>
   intro o ho k hk
   have hj:j < ops.size:=(Array.getElem?_eq_some_iff.1 ho).1
   obtain⟨e,he,hb,hor⟩:=D.good j o (by rw[D.size];exact hj) ho k hk
   have hlt:=D.lt j o ho e he hb
   rcases hor with rfl | hk'
   ·exact hlt
   ·have hes:e.on < ops.size:=by omega
    have:=ih e.on hlt _ (Array.getElem?_eq_getElem hes) k hk'
    omega
theorem getD_flip {listed:Array Bool} {j:Nat} (hj:j < listed.size):listed.getD j true=listed.getD j false:=by simp[hj]
theorem bits_listed {dy:List (Nat × Nat)} {b:Array Nat} (D:DrawFacts ops dy b) {listed:Array Bool} {l:List Nat} (L:Left ops listed l):∀ (j:Nat) o,ops[j]? = some o→(∀ e∈o.after,Region.binds .any e=true→listed.getD e.on false=true) →
 ∀ k,(b.getD j 0).testBit k=true→listed.getD k false=true:=by
 intro j
 induction j using Nat.strongRecOn with
 | _ j ih =>
   intro o ho hall k hk
   have hj:j < ops.size:=(Array.getElem?_eq_some_iff.1 ho).1
   obtain⟨e,he,hb,hor⟩:=D.good j o (by rw[D.size];exact hj) ho k hk
   have hle:=hall e he hb
   rcases hor with rfl | hk'
   ·exact hle
   ·have hlt:=D.lt j o ho e he hb
    have hes:e.on < ops.size:=by omega
    exact ih e.on hlt _ (Array.getElem?_eq_getElem hes) (L.closed e.on _ (Array.getElem?_eq_getElem hes) hle) k hk'
end
end Go.Ab
end
