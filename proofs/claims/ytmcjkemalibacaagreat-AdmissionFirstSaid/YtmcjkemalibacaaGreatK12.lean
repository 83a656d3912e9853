/-
  Part 12 of the proof: an evaluator of programs, its soundness, and what functions of this program compute.
-/
import Derived.Test.YtmcjkemalibacaaGreatK11
import Derived.Test.YtmcjkemalibacaaGreatK10
set_option linter.all false
set_option maxRecDepth 20000
set_option maxHeartbeats 40000000
namespace Go.Ab.Tryz
open Classical Go.Proofs Go.Ab
theorem expo1_ownF (st:St) (s g:Nat):expo1 st (.own s g)=expoF (st.heap s g):=by
 unfold expo1 expoF
 rw[if_neg (not_flat_own s g)]
 cases h:st.heap s g with
 | none=>simp only[h]
 | some e=>cases e<;>simp only[h]
theorem SD.fl {s:Store} {v:SV} (h:SD s v):Flat s.cFg.bal∧Flat s.votes.latest∧Flat s.votes.equiv∧Flat s.queues.early∧Flat s.queues.orphans∧Flat s.tree.nodes∧Flat s.tables:=(fl_Store s).1 h.flat
noncomputable def updW (s:Store) (v:SV) (c1 c2:Ckpt):SV :=
 if cuBad s v (cuJ s c1) (cuF s c2) then v else
 if cuF s c2=s.finality.fin then { v with T:=nz (dtL (ol v.T) (cuJ s c1).epoch)} else
 { v with T:=nz (dtL (ol v.T) (cuJ s c1).epoch),ns:=(prF v.ns (findR v.ns (cuF s c2).root) v.ns.length).1,O:=nz ((ol v.O).filter fun b=>decide ((stV s (cuF s c2).epoch).1 < b.slot))}
noncomputable def updS (s:Store) (v:SV) (c1 c2:Ckpt):Store :=
 if cuBad s v (cuJ s c1) (cuF s c2) then s else
 if cuF s c2=s.finality.fin then { s with finality:=⟨cuJ s c1,cuF s c2⟩,tables:=ov csTable (nz (dtL (ol v.T) (cuJ s c1).epoch))} else
 { s with finality:=⟨cuJ s c1,cuF s c2⟩,tables:=ov csTable (nz (dtL (ol v.T) (cuJ s c1).epoch)),
          tree:=⟨.sl (prF v.ns (findR v.ns (cuF s c2).root) v.ns.length).1.length (csNode (prF v.ns (findR v.ns (cuF s c2).root) v.ns.length).1)⟩,
          boost:=if findR (prF v.ns (findR v.ns (cuF s c2).root) v.ns.length).1 s.boost < 0 then zRoot else s.boost,
          queues:={ s.queues with orphans:=ov csBlock (nz ((ol v.O).filter fun b=>decide ((stV s (cuF s c2).epoch).1 < b.slot)))} }
theorem pr_len {ns:List Node} (i:Int):(prF ns i ns.length).1.length≤ns.length:=prF_nodes ns i ns.length
theorem SD.upd {s:Store} {v:SV} (h:SD s v) (hu:UpOk v.ns) (c1 c2:Ckpt):SD (updS s v c1 c2) (updW s v c1 c2):=by
 have hT:((ol (nz (dtL (ol v.T) (cuJ s c1).epoch))).length:Int) < 1000000:=by rw[ol_nz];have:=List.length_filter_le (fun t:Table=>decide ((cuJ s c1).epoch≤t.ck.epoch)) (ol v.T);have:=h.nT;unfold dtL;omega
 have hB:∀ t∈ol (nz (dtL (ol v.T) (cuJ s c1).epoch)),TabOk t:=by rw[ol_nz];exact fun t m=>h.tB t (List.mem_filter.1 m).1
 unfold updS updW
 split
 ·exact h
 split
 ·exact⟨h.bal,h.latest,h.equiv,h.early,h.orphans,h.tree,rfl,h.eV,hB,h.nB,h.nL,h.nQ,h.nE,h.nO,hT,h.nn⟩
 ·refine⟨h.bal,h.latest,h.equiv,h.early,rfl,rfl,rfl,h.eV,hB,h.nB,h.nL,h.nQ,h.nE, ?_,hT, ?_⟩
  ·rw[ol_nz]
   have:=List.length_filter_le (fun b:Block=>decide ((stV s (cuF s c2).epoch).1 < b.slot)) (ol v.O);have:=h.nO;omega
  ·have:=pr_len (ns:=v.ns) (findR v.ns (cuF s c2).root);have:=h.nn;show ((prF v.ns (findR v.ns (cuF s c2).root) v.ns.length).1.length:Int) < 1000000;omega
theorem c61 {s:Store} {v:SV} (hs:SD s v) (hu:UpOk v.ns) (hp:s.cFg.spe≠0) (c1 c2:Ckpt):callL Tryz.prog 61 [.agg (cStore s),.agg (cCkpt c1),.agg (cCkpt c2)]=some (.agg (cStore (updS s v c1 c2))):=by
 have hf:=hs.flat
 have hn:=hs.nO
 have hfl:=hs.fl
 have k59':=k59 hs hu hp c1 c2
 rw[cG Tryz.func61 rfl ok61 (by kernel_rfl) rfl]
 refine ex_eq ?_
 by_cases b1:cuBad s v (cuJ s c1) (cuF s c2)
 ·have hv:updS s v c1 c2=s:=if_pos b1
  have hc:canV s v c1 c2=.tup [.agg (cCkpt zCkpt),.agg (cCkpt zCkpt),.v (.bool false)]:=if_pos b1
  rw[hc] at k59'
  simp only[ZG,seval,Bool.false_and,Prod.mk.injEq,DY61,k59',extA]
  exact⟨_,xcell rfl (by simp only[E8,seval,hf]<;>rfl) (by simp only[Z8,seval,hf]<;>rfl) (by simp only[FLb,and_self,hf]),by rw[hv]⟩
 have hc:canV s v c1 c2=.tup [.agg (cCkpt (cuJ s c1)),.agg (cCkpt (cuF s c2)),.v (.bool true)]:=if_neg b1
 rw[hc] at k59'
 have hv:updS s v c1 c2=_:=if_neg b1
 generalize hJ:cuJ s c1=J at *
 generalize hF:cuF s c2=F at *
 have hfr:=findR_range v.ns F.root
 have hF0:0≤findR v.ns F.root:=by rcases Int.lt_or_le (findR v.ns F.root) 0 with h | h;exact absurd (.inr (.inl h)) b1;exact h
 have k128:=c128 v.T hs.nT (fun t m=>(hs.tB t m).fl) J.epoch
 have kp:=k34 v.ns hu hs.nn (findR v.ns F.root) ⟨hF0,hfr.2⟩
 by_cases e1:dtL (ol v.T) J.epoch=[]
 ·have hz:(nz (dtL (ol v.T) J.epoch))=none:=if_pos e1
  rw[show rowT 118 34 csTable (dtL (ol v.T) J.epoch)=.v (.slice none 0 0) from if_pos e1] at k128
  have k128':=kx k128 (flat2 hs.fT (.v _)) (.v _)
  by_cases e2:F=s.finality.fin
  ·rw[if_pos e2,hz] at hv
   subst e2
   simp only[ZG,seval,Bool.false_and,Prod.mk.injEq,DY61,k59',extA,hs.tables,k128',decide_true,decide_false]
   exact⟨_,xcell rfl (by simp only[E8,seval,hf,hfl,and_self]<;>rfl) (by simp only[Z8,seval,hf,hfl,and_self]<;>rfl) (by simp only[FLb,and_self,hf,hfl,and_self]),by rw[hv];rfl⟩
  rw[if_neg e2,hz] at hv
  obtain⟨ns',en⟩:∃ ns',(prF v.ns (findR v.ns F.root) v.ns.length).1=ns':=⟨_,rfl⟩
  have hn':(ns'.length:Int) < 1000000:=by have:=pr_len (ns:=v.ns) (findR v.ns F.root);have:=hs.nn;rw[← en];omega
  unfold prOk at kp
  rw[en] at kp hv
  obtain⟨x,ex⟩:∃ x,(sofV F.epoch s.cFg.spe).1=x:=⟨_,rfl⟩
  rw[show (stV s F.epoch).1=x from ex] at hv
  by_cases e3:findR ns' s.boost < 0
  ·rw[if_pos e3] at hv
   obtain⟨S1,eS⟩:∃ S1:Store,S1={ cFg:=s.cFg,votes:=s.votes,finality:=⟨J,F⟩,queues:=s.queues,tree:=⟨.sl ns'.length (csNode ns')⟩,now:=s.now,boost:=zRoot,tables:=.v (.slice none 0 0)}:=⟨_,rfl⟩
   have hS:Flat (.agg (cStore S1)):=by rw[eS];simp only[FLb,hfl,and_self]
   have k99':=fun st d=>k99 S1 hS F.epoch st d
   simp only[stV,eS,ex] at k99'
   simp only[ZG,seval,Bool.false_and,Prod.mk.injEq,DY61,k59',extA,hs.tables,k128',decide_true,decide_false,e2,hs.tree,k46 _ _ hs.nn,kp,k46 _ _ hn',e3,k99',hs.orphans]
   have hoS:S1.queues.orphans=ov csBlock v.O:=by rw[eS];exact hs.orphans
   refine use_loopG (fun m st=>∃ k:Nat,(st.env 3=.ptr 3 0 0∧st.heap 3 0=some (.cells (cStore S1))∧st.env 6=.ptr 6 0 0∧st.heap 6 0=some (.cells (cStore zStore))∧st.env 11=.v (.int .u64 x)∧st.env 14=.v (.int .i64 k))∧(((((ol v.O).take k).filter (fun b=>decide (x < b.slot)))=[]∧st.env 13=.v (.slice none 0 0))∨((((ol v.O).take k).filter (fun b=>decide (x < b.slot)))≠[]∧∃ g,st.env 13=.own 99 g∧g < st.cnt 99∧st.heap 99 g=some (.row 74 238 (((ol v.O).take k).filter (fun b=>decide (x < b.slot))).length (csBlock (((ol v.O).take k).filter (fun b=>decide (x < b.slot)))))))∧k≤(ol v.O).length∧m=(ol v.O).length - k)
    (fun e st=>e=.exit 0∧(((((ol v.O).take (ol v.O).length).filter (fun b=>decide (x < b.slot)))=[]∧st.env 13=.v (.slice none 0 0))∨((((ol v.O).take (ol v.O).length).filter (fun b=>decide (x < b.slot)))≠[]∧∃ g,st.env 13=.own 99 g∧g < st.cnt 99∧st.heap 99 g=some (.row 74 238 (((ol v.O).take (ol v.O).length).filter (fun b=>decide (x < b.slot))).length (csBlock (((ol v.O).take (ol v.O).length).filter (fun b=>decide (x < b.slot)))))))∧st.env 3=.ptr 3 0 0∧st.heap 3 0=some (.cells (cStore S1))∧st.env 6=.ptr 6 0 0∧st.heap 6 0=some (.cells (cStore zStore))∧st.env 11=.v (.int .u64 x)) ((ol v.O).length) ?step ?start ?rest
   case step =>
    rintro m st ⟨k,hI,h5,hk,hm⟩
    have hl':(((((ol v.O).take k).filter (fun b=>decide (x < b.slot))).length:Nat):Int) < 1000000:=by have:=List.length_filter_le (fun b=>decide (x < b.slot)) ((ol v.O).take k);have h2:=List.length_take_le' k (ol v.O);omega
    by_cases hlt:(k:Int) < (ol v.O).length
    ·have q0:(0:Int)≤k:=by omega
     have hw:IntKind.i64.wrap ((k:Int)+1)=((k+1:Nat):Int):=by rw[w64 _ (by omega) (by omega)];omega
     have hs:=filt_succ zBlock (fun b=>decide (x < b.slot)) (ol v.O) k (by omega)
     by_cases hh:x < (gx zBlock (ol v.O) (k:Int)).slot
     ·rw[if_pos (decide_eq_true hh)] at hs
      rcases h5 with ⟨hy,h5⟩ | ⟨hy,g,h5⟩
      ·rw[hy] at hs
       apply oNG ((ol v.O).length - (k+1))
       ·simp only[ZG,seval,Bool.false_and,Prod.mk.injEq,hI,h5,hlt,hw,q0,DY61,hoS,hh]
        rfl
       ·exact⟨k+1,by simp only[E8,seval,hI],.inr ⟨by rw[hs];simp,_,by simp only[E8,seval]<;>rfl,(by simp only[E8,seval]<;>omega),(by rw[hs];simp only[E8,seval]<;>rfl)⟩,by omega,rfl⟩
      ·apply oNG ((ol v.O).length - (k+1))
       ·simp only[ZG,seval,Bool.false_and,Prod.mk.injEq,hI,h5,hl',hlt,hw,q0,DY61,hoS,hh]
        rfl
       ·exact⟨k+1,by simp only[E8,seval,hI],.inr ⟨by rw[hs];simp,_,by simp only[E8,seval]<;>rfl,(by simp only[E8,seval]<;>omega),(by rw[hs];simp only[E8,seval]<;>rfl)⟩,by omega,rfl⟩
     ·rw[if_neg (by simpa using hh),List.append_nil] at hs
      apply oNG ((ol v.O).length - (k+1))
      ·simp only[ZG,seval,Bool.false_and,Prod.mk.injEq,hI,hlt,hw,q0,DY61,hoS,hh]
       rfl
      ·exact⟨k+1,by simp only[E8,seval,hI],by rw[hs];simpa only[E8,seval] using h5,by omega,rfl⟩
    ·have hkn:k=(ol v.O).length:=by omega
     rw[hkn] at h5
     apply oTG (.exit 0)
     ·simp only[ZG,seval,Bool.false_and,Prod.mk.injEq,hI,hlt,DY61,hoS]
      rfl
     ·exact⟨rfl,by simpa only[E8,seval] using h5,by simp only[E8,seval,hI]⟩
   case start=>exact⟨0,by simp only[E8,seval,eS]<;>rfl,.inl ⟨rfl,by simp only[E8,seval]⟩,by omega,by omega⟩
   case rest =>
    rintro e st ⟨rfl,⟨hy,h5⟩ | ⟨hy,g,h5,hg,hh5⟩,hI⟩
    ·rw[List.take_length] at hy
     rw[show nz ((ol v.O).filter fun b=>decide (x < b.slot))=none from if_pos hy] at hv
     rw[eS] at hI
     simp only[ZG,seval,Bool.false_and,Prod.mk.injEq,DY61,h5,hI]
     exact⟨_,xcell rfl (by simp only[E8,seval,hI,hfl,and_self]<;>rfl) (by simp only[Z8,seval,hI,hfl,and_self]<;>rfl) (by simp only[FLb,and_self,hI,hfl,and_self]),by rw[hv];rfl⟩
    ·rw[List.take_length] at hy hh5
     rw[show nz ((ol v.O).filter fun b=>decide (x < b.slot))=some ((ol v.O).filter fun b=>decide (x < b.slot)) from if_neg hy] at hv
     rw[eS] at hI
     simp only[ZG,seval,Bool.false_and,Prod.mk.injEq,DY61,h5,hh5,hI]
     exact⟨_,by apply xcellx;rfl;all_goals simp only[keep_none,Z8,seval,hI,hh5,hfl,expo_aggq,exq_Store,expo1_ownF,expo1_id,exFBlock,FLb]<;>rfl,by rw[hv];rfl⟩
  rw[if_neg e3] at hv
  obtain⟨S1,eS⟩:∃ S1:Store,S1={ cFg:=s.cFg,votes:=s.votes,finality:=⟨J,F⟩,queues:=s.queues,tree:=⟨.sl ns'.length (csNode ns')⟩,now:=s.now,boost:=s.boost,tables:=.v (.slice none 0 0)}:=⟨_,rfl⟩
  have hS:Flat (.agg (cStore S1)):=by rw[eS];simp only[FLb,hfl,and_self]
  have k99':=fun st d=>k99 S1 hS F.epoch st d
  simp only[stV,eS,ex] at k99'
  simp only[ZG,seval,Bool.false_and,Prod.mk.injEq,DY61,k59',extA,hs.tables,k128',decide_true,decide_false,e2,hs.tree,k46 _ _ hs.nn,kp,k46 _ _ hn',e3,k99',hs.orphans]
  have hoS:S1.queues.orphans=ov csBlock v.O:=by rw[eS];exact hs.orphans
  refine use_loopG (fun m st=>∃ k:Nat,(st.env 3=.ptr 3 0 0∧st.heap 3 0=some (.cells (cStore S1))∧st.env 6=.ptr 6 0 0∧st.heap 6 0=some (.cells (cStore zStore))∧st.env 11=.v (.int .u64 x)∧st.env 14=.v (.int .i64 k))∧(((((ol v.O).take k).filter (fun b=>decide (x < b.slot)))=[]∧st.env 13=.v (.slice none 0 0))∨((((ol v.O).take k).filter (fun b=>decide (x < b.slot)))≠[]∧∃ g,st.env 13=.own 99 g∧g < st.cnt 99∧st.heap 99 g=some (.row 74 238 (((ol v.O).take k).filter (fun b=>decide (x < b.slot))).length (csBlock (((ol v.O).take k).filter (fun b=>decide (x < b.slot)))))))∧k≤(ol v.O).length∧m=(ol v.O).length - k)
   (fun e st=>e=.exit 0∧(((((ol v.O).take (ol v.O).length).filter (fun b=>decide (x < b.slot)))=[]∧st.env 13=.v (.slice none 0 0))∨((((ol v.O).take (ol v.O).length).filter (fun b=>decide (x < b.slot)))≠[]∧∃ g,st.env 13=.own 99 g∧g < st.cnt 99∧st.heap 99 g=some (.row 74 238 (((ol v.O).take (ol v.O).length).filter (fun b=>decide (x < b.slot))).length (csBlock (((ol v.O).take (ol v.O).length).filter (fun b=>decide (x < b.slot)))))))∧st.env 3=.ptr 3 0 0∧st.heap 3 0=some (.cells (cStore S1))∧st.env 6=.ptr 6 0 0∧st.heap 6 0=some (.cells (cStore zStore))∧st.env 11=.v (.int .u64 x)) ((ol v.O).length) ?step ?start ?rest
  case step =>
   rintro m st ⟨k,hI,h5,hk,hm⟩
   have hl':(((((ol v.O).take k).filter (fun b=>decide (x < b.slot))).length:Nat):Int) < 1000000:=by have:=List.length_filter_le (fun b=>decide (x < b.slot)) ((ol v.O).take k);have h2:=List.length_take_le' k (ol v.O);omega
   by_cases hlt:(k:Int) < (ol v.O).length
   ·have q0:(0:Int)≤k:=by omega
    have hw:IntKind.i64.wrap ((k:Int)+1)=((k+1:Nat):Int):=by rw[w64 _ (by omega) (by omega)];omega
    have hs:=filt_succ zBlock (fun b=>decide (x < b.slot)) (ol v.O) k (by omega)
    by_cases hh:x < (gx zBlock (ol v.O) (k:Int)).slot
    ·rw[if_pos (decide_eq_true hh)] at hs
     rcases h5 with ⟨hy,h5⟩ | ⟨hy,g,h5⟩
     ·rw[hy] at hs
      apply oNG ((ol v.O).length - (k+1))
      ·simp only[ZG,seval,Bool.false_and,Prod.mk.injEq,hI,h5,hlt,hw,q0,DY61,hoS,hh]
       rfl
      ·exact⟨k+1,by simp only[E8,seval,hI],.inr ⟨by rw[hs];simp,_,by simp only[E8,seval]<;>rfl,(by simp only[E8,seval]<;>omega),(by rw[hs];simp only[E8,seval]<;>rfl)⟩,by omega,rfl⟩
     ·apply oNG ((ol v.O).length - (k+1))
      ·simp only[ZG,seval,Bool.false_and,Prod.mk.injEq,hI,h5,hl',hlt,hw,q0,DY61,hoS,hh]
       rfl
      ·exact⟨k+1,by simp only[E8,seval,hI],.inr ⟨by rw[hs];simp,_,by simp only[E8,seval]<;>rfl,(by simp only[E8,seval]<;>omega),(by rw[hs];simp only[E8,seval]<;>rfl)⟩,by omega,rfl⟩
    ·rw[if_neg (by simpa using hh),List.append_nil] at hs
     apply oNG ((ol v.O).length - (k+1))
     ·simp only[ZG,seval,Bool.false_and,Prod.mk.injEq,hI,hlt,hw,q0,DY61,hoS,hh]
      rfl
     ·exact⟨k+1,by simp only[E8,seval,hI],by rw[hs];simpa only[E8,seval] using h5,by omega,rfl⟩
   ·have hkn:k=(ol v.O).length:=by omega
    rw[hkn] at h5
    apply oTG (.exit 0)
    ·simp only[ZG,seval,Bool.false_and,Prod.mk.injEq,hI,hlt,DY61,hoS]
     rfl
    ·exact⟨rfl,by simpa only[E8,seval] using h5,by simp only[E8,seval,hI]⟩
  case start=>exact⟨0,by simp only[E8,seval,eS]<;>rfl,.inl ⟨rfl,by simp only[E8,seval]⟩,by omega,by omega⟩
  case rest =>
   rintro e st ⟨rfl,⟨hy,h5⟩ | ⟨hy,g,h5,hg,hh5⟩,hI⟩
   ·rw[List.take_length] at hy
    rw[show nz ((ol v.O).filter fun b=>decide (x < b.slot))=none from if_pos hy] at hv
    rw[eS] at hI
    simp only[ZG,seval,Bool.false_and,Prod.mk.injEq,DY61,h5,hI]
    exact⟨_,xcell rfl (by simp only[E8,seval,hI,hfl,and_self]<;>rfl) (by simp only[Z8,seval,hI,hfl,and_self]<;>rfl) (by simp only[FLb,and_self,hI,hfl,and_self]),by rw[hv];rfl⟩
   ·rw[List.take_length] at hy hh5
    rw[show nz ((ol v.O).filter fun b=>decide (x < b.slot))=some ((ol v.O).filter fun b=>decide (x < b.slot)) from if_neg hy] at hv
    rw[eS] at hI
    simp only[ZG,seval,Bool.false_and,Prod.mk.injEq,DY61,h5,hh5,hI]
    exact⟨_,by apply xcellx;rfl;all_goals simp only[keep_none,Z8,seval,hI,hh5,hfl,expo_aggq,exq_Store,expo1_ownF,expo1_id,exFBlock,FLb]<;>rfl,by rw[hv];rfl⟩
 ·have hz:(nz (dtL (ol v.T) J.epoch))=some (dtL (ol v.T) J.epoch):=if_neg e1
  rw[show rowT 118 34 csTable (dtL (ol v.T) J.epoch)=.uniq 118 34 (dtL (ol v.T) J.epoch).length (csTable (dtL (ol v.T) J.epoch)) from if_neg e1] at k128
  have k128':∀ (st:St),callFn (callL Tryz.prog) 128 [ov csTable v.T,.v (.int .u64 J.epoch)] st (some 30)=_:=fun st=>call_uniq (st:=st) (d:=30) (flat2 hs.fT (.v _)) k128
  have hfx:∀ t∈dtL (ol v.T) J.epoch,Flat t.bal:=fun t m=>(hs.tB t (List.mem_filter.1 m).1).fl
  have hex:=exFTable (dtL (ol v.T) J.epoch).length (dtL (ol v.T) J.epoch) hfx
  by_cases e2:F=s.finality.fin
  ·rw[if_pos e2,hz] at hv
   subst e2
   simp only[ZG,seval,Bool.false_and,Prod.mk.injEq,DY61,k59',extA,hs.tables,k128',decide_true,decide_false]
   exact⟨_,by apply xcellx;rfl;all_goals simp only[keep_none,Z8,seval,hfl,expo_aggq,exq_Store,expo1_ownF,expo1_id,hex]<;>rfl,by rw[hv];rfl⟩
  rw[if_neg e2,hz] at hv
  obtain⟨ns',en⟩:∃ ns',(prF v.ns (findR v.ns F.root) v.ns.length).1=ns':=⟨_,rfl⟩
  have hn':(ns'.length:Int) < 1000000:=by have:=pr_len (ns:=v.ns) (findR v.ns F.root);have:=hs.nn;rw[← en];omega
  unfold prOk at kp
  rw[en] at kp hv
  obtain⟨x,ex⟩:∃ x,(sofV F.epoch s.cFg.spe).1=x:=⟨_,rfl⟩
  rw[show (stV s F.epoch).1=x from ex] at hv
  by_cases e3:findR ns' s.boost < 0
  ·rw[if_pos e3] at hv
   obtain⟨S1,eS⟩:∃ S1:Store,S1={ cFg:=s.cFg,votes:=s.votes,finality:=⟨J,F⟩,queues:=s.queues,tree:=⟨.sl ns'.length (csNode ns')⟩,now:=s.now,boost:=zRoot,tables:=.own 30 0 }:=⟨_,rfl⟩
   have hS:∀ st:St,st.heap 30 0=some (.row 118 34 (dtL (ol v.T) J.epoch).length (csTable (dtL (ol v.T) J.epoch)))→expo st (.agg (cStore S1))=some (.agg (cStore { S1 with tables:=.sl (dtL (ol v.T) J.epoch).length (csTable (dtL (ol v.T) J.epoch))})):=by
    intro st h;rw[eS];simp only[expo_aggq,exq_Store,expo1_ownF,h,hex,expo1_id,FLb,hfl,bnd_some]
   have k99':∀ (st:St) (d:Option Nat),st.heap 30 0=some (.row 118 34 (dtL (ol v.T) J.epoch).length (csTable (dtL (ol v.T) J.epoch)))→callFn (callL Tryz.prog) 99 [.agg (cStore S1),.v (.int .u64 F.epoch)] st d=some { dst:=d,val:=.tup [.v (.int .u64 (stV S1 F.epoch).1),.v (.bool ((stV S1 F.epoch).2 == 0))]}:=by
    intro st d h
    rw[callFn_Q,List.map_cons,List.map_cons,List.map_nil,hS st h,expo_v,optAll_some,optAll_some,optAll_nil]
    exact Q_of (c99 _ F.epoch) (by intro x hx;simp only[List.mem_cons,List.not_mem_nil,or_false] at hx;rcases hx with rfl | rfl<;>exact .v _) (.tup _ (flat2 (.v _) (.v _)))
   simp only[stV,eS,ex] at k99'
   simp only[ZG,seval,Bool.false_and,Prod.mk.injEq,DY61,k59',extA,hs.tables,k128',decide_true,decide_false,e2,hs.tree,k46 _ _ hs.nn,kp,k46 _ _ hn',e3,k99',hs.orphans]
   have hoS:S1.queues.orphans=ov csBlock v.O:=by rw[eS];exact hs.orphans
   refine use_loopG (fun m st=>∃ k:Nat,(st.env 3=.ptr 3 0 0∧st.heap 3 0=some (.cells (cStore S1))∧st.env 6=.ptr 6 0 0∧st.heap 6 0=some (.cells (cStore zStore))∧st.env 11=.v (.int .u64 x)∧st.heap 30 0=some (.row 118 34 (dtL (ol v.T) J.epoch).length (csTable (dtL (ol v.T) J.epoch)))∧st.env 14=.v (.int .i64 k))∧(((((ol v.O).take k).filter (fun b=>decide (x < b.slot)))=[]∧st.env 13=.v (.slice none 0 0))∨((((ol v.O).take k).filter (fun b=>decide (x < b.slot)))≠[]∧∃ g,st.env 13=.own 99 g∧g < st.cnt 99∧st.heap 99 g=some (.row 74 238 (((ol v.O).take k).filter (fun b=>decide (x < b.slot))).length (csBlock (((ol v.O).take k).filter (fun b=>decide (x < b.slot)))))))∧k≤(ol v.O).length∧m=(ol v.O).length - k)
    (fun e st=>e=.exit 0∧(((((ol v.O).take (ol v.O).length).filter (fun b=>decide (x < b.slot)))=[]∧st.env 13=.v (.slice none 0 0))∨((((ol v.O).take (ol v.O).length).filter (fun b=>decide (x < b.slot)))≠[]∧∃ g,st.env 13=.own 99 g∧g < st.cnt 99∧st.heap 99 g=some (.row 74 238 (((ol v.O).take (ol v.O).length).filter (fun b=>decide (x < b.slot))).length (csBlock (((ol v.O).take (ol v.O).length).filter (fun b=>decide (x < b.slot)))))))∧st.env 3=.ptr 3 0 0∧st.heap 3 0=some (.cells (cStore S1))∧st.env 6=.ptr 6 0 0∧st.heap 6 0=some (.cells (cStore zStore))∧st.env 11=.v (.int .u64 x)∧st.heap 30 0=some (.row 118 34 (dtL (ol v.T) J.epoch).length (csTable (dtL (ol v.T) J.epoch)))) ((ol v.O).length) ?step ?start ?rest
   case step =>
    rintro m st ⟨k,hI,h5,hk,hm⟩
    have hl':(((((ol v.O).take k).filter (fun b=>decide (x < b.slot))).length:Nat):Int) < 1000000:=by have:=List.length_filter_le (fun b=>decide (x < b.slot)) ((ol v.O).take k);have h2:=List.length_take_le' k (ol v.O);omega
    by_cases hlt:(k:Int) < (ol v.O).length
    ·have q0:(0:Int)≤k:=by omega
     have hw:IntKind.i64.wrap ((k:Int)+1)=((k+1:Nat):Int):=by rw[w64 _ (by omega) (by omega)];omega
     have hs:=filt_succ zBlock (fun b=>decide (x < b.slot)) (ol v.O) k (by omega)
     by_cases hh:x < (gx zBlock (ol v.O) (k:Int)).slot
     ·rw[if_pos (decide_eq_true hh)] at hs
      rcases h5 with ⟨hy,h5⟩ | ⟨hy,g,h5⟩
      ·rw[hy] at hs
       apply oNG ((ol v.O).length - (k+1))
       ·simp only[ZG,seval,Bool.false_and,Prod.mk.injEq,hI,h5,hlt,hw,q0,DY61,hoS,hh]
        rfl
       ·exact⟨k+1,by simp only[E8,seval,hI],.inr ⟨by rw[hs];simp,_,by simp only[E8,seval]<;>rfl,(by simp only[E8,seval]<;>omega),(by rw[hs];simp only[E8,seval]<;>rfl)⟩,by omega,rfl⟩
      ·apply oNG ((ol v.O).length - (k+1))
       ·simp only[ZG,seval,Bool.false_and,Prod.mk.injEq,hI,h5,hl',hlt,hw,q0,DY61,hoS,hh]
        rfl
       ·exact⟨k+1,by simp only[E8,seval,hI],.inr ⟨by rw[hs];simp,_,by simp only[E8,seval]<;>rfl,(by simp only[E8,seval]<;>omega),(by rw[hs];simp only[E8,seval]<;>rfl)⟩,by omega,rfl⟩
     ·rw[if_neg (by simpa using hh),List.append_nil] at hs
      apply oNG ((ol v.O).length - (k+1))
      ·simp only[ZG,seval,Bool.false_and,Prod.mk.injEq,hI,hlt,hw,q0,DY61,hoS,hh]
       rfl
      ·exact⟨k+1,by simp only[E8,seval,hI],by rw[hs];simpa only[E8,seval] using h5,by omega,rfl⟩
    ·have hkn:k=(ol v.O).length:=by omega
     rw[hkn] at h5
     apply oTG (.exit 0)
     ·simp only[ZG,seval,Bool.false_and,Prod.mk.injEq,hI,hlt,DY61,hoS]
      rfl
     ·exact⟨rfl,by simpa only[E8,seval] using h5,by simp only[E8,seval,hI]⟩
   case start=>exact⟨0,by simp only[E8,seval,eS]<;>rfl,.inl ⟨rfl,by simp only[E8,seval]⟩,by omega,by omega⟩
   case rest =>
    rintro e st ⟨rfl,⟨hy,h5⟩ | ⟨hy,g,h5,hg,hh5⟩,hI⟩
    ·rw[List.take_length] at hy
     rw[show nz ((ol v.O).filter fun b=>decide (x < b.slot))=none from if_pos hy] at hv
     rw[eS] at hI
     simp only[ZG,seval,Bool.false_and,Prod.mk.injEq,DY61,h5,hI]
     exact⟨_,by apply xcellx;rfl;all_goals simp only[keep_none,Z8,seval,hI,hfl,expo_aggq,exq_Store,expo1_ownF,expo1_id,exFBlock,FLb,hex]<;>rfl,by rw[hv];rfl⟩
    ·rw[List.take_length] at hy hh5
     rw[show nz ((ol v.O).filter fun b=>decide (x < b.slot))=some ((ol v.O).filter fun b=>decide (x < b.slot)) from if_neg hy] at hv
     rw[eS] at hI
     simp only[ZG,seval,Bool.false_and,Prod.mk.injEq,DY61,h5,hh5,hI]
     exact⟨_,by apply xcellx;rfl;all_goals simp only[keep_none,Z8,seval,hI,hh5,hfl,expo_aggq,exq_Store,expo1_ownF,expo1_id,exFBlock,FLb,hex]<;>rfl,by rw[hv];rfl⟩
  rw[if_neg e3] at hv
  obtain⟨S1,eS⟩:∃ S1:Store,S1={ cFg:=s.cFg,votes:=s.votes,finality:=⟨J,F⟩,queues:=s.queues,tree:=⟨.sl ns'.length (csNode ns')⟩,now:=s.now,boost:=s.boost,tables:=.own 30 0 }:=⟨_,rfl⟩
  have hS:∀ st:St,st.heap 30 0=some (.row 118 34 (dtL (ol v.T) J.epoch).length (csTable (dtL (ol v.T) J.epoch)))→expo st (.agg (cStore S1))=some (.agg (cStore { S1 with tables:=.sl (dtL (ol v.T) J.epoch).length (csTable (dtL (ol v.T) J.epoch))})):=by
   intro st h;rw[eS];simp only[expo_aggq,exq_Store,expo1_ownF,h,hex,expo1_id,FLb,hfl,bnd_some]
  have k99':∀ (st:St) (d:Option Nat),st.heap 30 0=some (.row 118 34 (dtL (ol v.T) J.epoch).length (csTable (dtL (ol v.T) J.epoch)))→callFn (callL Tryz.prog) 99 [.agg (cStore S1),.v (.int .u64 F.epoch)] st d=some { dst:=d,val:=.tup [.v (.int .u64 (stV S1 F.epoch).1),.v (.bool ((stV S1 F.epoch).2 == 0))]}:=by
   intro st d h
   rw[callFn_Q,List.map_cons,List.map_cons,List.map_nil,hS st h,expo_v,optAll_some,optAll_some,optAll_nil]
   exact Q_of (c99 _ F.epoch) (by intro x hx;simp only[List.mem_cons,List.not_mem_nil,or_false] at hx;rcases hx with rfl | rfl<;>exact .v _) (.tup _ (flat2 (.v _) (.v _)))
  simp only[stV,eS,ex] at k99'
  simp only[ZG,seval,Bool.false_and,Prod.mk.injEq,DY61,k59',extA,hs.tables,k128',decide_true,decide_false,e2,hs.tree,k46 _ _ hs.nn,kp,k46 _ _ hn',e3,k99',hs.orphans]
  have hoS:S1.queues.orphans=ov csBlock v.O:=by rw[eS];exact hs.orphans
  refine use_loopG (fun m st=>∃ k:Nat,(st.env 3=.ptr 3 0 0∧st.heap 3 0=some (.cells (cStore S1))∧st.env 6=.ptr 6 0 0∧st.heap 6 0=some (.cells (cStore zStore))∧st.env 11=.v (.int .u64 x)∧st.heap 30 0=some (.row 118 34 (dtL (ol v.T) J.epoch).length (csTable (dtL (ol v.T) J.epoch)))∧st.env 14=.v (.int .i64 k))∧(((((ol v.O).take k).filter (fun b=>decide (x < b.slot)))=[]∧st.env 13=.v (.slice none 0 0))∨((((ol v.O).take k).filter (fun b=>decide (x < b.slot)))≠[]∧∃ g,st.env 13=.own 99 g∧g < st.cnt 99∧st.heap 99 g=some (.row 74 238 (((ol v.O).take k).filter (fun b=>decide (x < b.slot))).length (csBlock (((ol v.O).take k).filter (fun b=>decide (x < b.slot)))))))∧k≤(ol v.O).length∧m=(ol v.O).length - k)
   (fun e st=>e=.exit 0∧(((((ol v.O).take (ol v.O).length).filter (fun b=>decide (x < b.slot)))=[]∧st.env 13=.v (.slice none 0 0))∨((((ol v.O).take (ol v.O).length).filter (fun b=>decide (x < b.slot)))≠[]∧∃ g,st.env 13=.own 99 g∧g < st.cnt 99∧st.heap 99 g=some (.row 74 238 (((ol v.O).take (ol v.O).length).filter (fun b=>decide (x < b.slot))).length (csBlock (((ol v.O).take (ol v.O).length).filter (fun b=>decide (x < b.slot)))))))∧st.env 3=.ptr 3 0 0∧st.heap 3 0=some (.cells (cStore S1))∧st.env 6=.ptr 6 0 0∧st.heap 6 0=some (.cells (cStore zStore))∧st.env 11=.v (.int .u64 x)∧st.heap 30 0=some (.row 118 34 (dtL (ol v.T) J.epoch).length (csTable (dtL (ol v.T) J.epoch)))) ((ol v.O).length) ?step ?start ?rest
  case step =>
   rintro m st ⟨k,hI,h5,hk,hm⟩
   have hl':(((((ol v.O).take k).filter (fun b=>decide (x < b.slot))).length:Nat):Int) < 1000000:=by have:=List.length_filter_le (fun b=>decide (x < b.slot)) ((ol v.O).take k);have h2:=List.length_take_le' k (ol v.O);omega
   by_cases hlt:(k:Int) < (ol v.O).length
   ·have q0:(0:Int)≤k:=by omega
    have hw:IntKind.i64.wrap ((k:Int)+1)=((k+1:Nat):Int):=by rw[w64 _ (by omega) (by omega)];omega
    have hs:=filt_succ zBlock (fun b=>decide (x < b.slot)) (ol v.O) k (by omega)
    by_cases hh:x < (gx zBlock (ol v.O) (k:Int)).slot
    ·rw[if_pos (decide_eq_true hh)] at hs
     rcases h5 with ⟨hy,h5⟩ | ⟨hy,g,h5⟩
     ·rw[hy] at hs
      apply oNG ((ol v.O).length - (k+1))
      ·simp only[ZG,seval,Bool.false_and,Prod.mk.injEq,hI,h5,hlt,hw,q0,DY61,hoS,hh]
       rfl
      ·exact⟨k+1,by simp only[E8,seval,hI],.inr ⟨by rw[hs];simp,_,by simp only[E8,seval]<;>rfl,(by simp only[E8,seval]<;>omega),(by rw[hs];simp only[E8,seval]<;>rfl)⟩,by omega,rfl⟩
     ·apply oNG ((ol v.O).length - (k+1))
      ·simp only[ZG,seval,Bool.false_and,Prod.mk.injEq,hI,h5,hl',hlt,hw,q0,DY61,hoS,hh]
       rfl
      ·exact⟨k+1,by simp only[E8,seval,hI],.inr ⟨by rw[hs];simp,_,by simp only[E8,seval]<;>rfl,(by simp only[E8,seval]<;>omega),(by rw[hs];simp only[E8,seval]<;>rfl)⟩,by omega,rfl⟩
    ·rw[if_neg (by simpa using hh),List.append_nil] at hs
     apply oNG ((ol v.O).length - (k+1))
     ·simp only[ZG,seval,Bool.false_and,Prod.mk.injEq,hI,hlt,hw,q0,DY61,hoS,hh]
      rfl
     ·exact⟨k+1,by simp only[E8,seval,hI],by rw[hs];simpa only[E8,seval] using h5,by omega,rfl⟩
   ·have hkn:k=(ol v.O).length:=by omega
    rw[hkn] at h5
    apply oTG (.exit 0)
    ·simp only[ZG,seval,Bool.false_and,Prod.mk.injEq,hI,hlt,DY61,hoS]
     rfl
    ·exact⟨rfl,by simpa only[E8,seval] using h5,by simp only[E8,seval,hI]⟩
  case start=>exact⟨0,by simp only[E8,seval,eS]<;>rfl,.inl ⟨rfl,by simp only[E8,seval]⟩,by omega,by omega⟩
  case rest =>
   rintro e st ⟨rfl,⟨hy,h5⟩ | ⟨hy,g,h5,hg,hh5⟩,hI⟩
   ·rw[List.take_length] at hy
    rw[show nz ((ol v.O).filter fun b=>decide (x < b.slot))=none from if_pos hy] at hv
    rw[eS] at hI
    simp only[ZG,seval,Bool.false_and,Prod.mk.injEq,DY61,h5,hI]
    exact⟨_,by apply xcellx;rfl;all_goals simp only[keep_none,Z8,seval,hI,hfl,expo_aggq,exq_Store,expo1_ownF,expo1_id,exFBlock,FLb,hex]<;>rfl,by rw[hv];rfl⟩
   ·rw[List.take_length] at hy hh5
    rw[show nz ((ol v.O).filter fun b=>decide (x < b.slot))=some ((ol v.O).filter fun b=>decide (x < b.slot)) from if_neg hy] at hv
    rw[eS] at hI
    simp only[ZG,seval,Bool.false_and,Prod.mk.injEq,DY61,h5,hh5,hI]
    exact⟨_,by apply xcellx;rfl;all_goals simp only[keep_none,Z8,seval,hI,hh5,hfl,expo_aggq,exq_Store,expo1_ownF,expo1_id,exFBlock,FLb,hex]<;>rfl,by rw[hv];rfl⟩
theorem k61 {s:Store} {v:SV} (hs:SD s v) (hu:UpOk v.ns) (hp:s.cFg.spe≠0) (c1 c2:Ckpt) (st:St) (d:Option Nat):callFn (callL Tryz.prog) 61 [.agg (cStore s),.agg (cCkpt c1),.agg (cCkpt c2)] st d=some { dst:=d,val:=.agg (cStore (updS s v c1 c2))}:=call_flat (flat3 hs.flat (.agg _ (flat_cCkpt c1)) (.agg _ (flat_cCkpt c2))) (c61 hs hu hp c1 c2) (hs.upd hu c1 c2).flat
theorem fa_oO {α:Type} (s g:Nat) (cs:List α→List AV) (o:Option (List α)):farApart (.own s g) (ov cs o)=True:=by cases o<;>rfl
theorem fa_Oo {α:Type} (s g:Nat) (cs:List α→List AV) (o:Option (List α)):farApart (ov cs o) (.own s g)=True:=by cases o<;>rfl
theorem fa_pO {α:Type} (s g n:Nat) (cs:List α→List AV) (o:Option (List α)):farApart (.ptr s g n) (ov cs o)=True:=by cases o<;>rfl
theorem fa_Op {α:Type} (s g n:Nat) (cs:List α→List AV) (o:Option (List α)):farApart (ov cs o) (.ptr s g n)=True:=by cases o<;>rfl
theorem c158 (t:Table) (b:Option (List Int)) (hb:t.bal=ov csU64 b) (hl:((ol b).length:Int) < 1000000):callL Tryz.prog 158 [.agg (cTable t)]=some (.agg (cTable ⟨t.ck,ov csU64 (some (ol b))⟩)):=by
 rw[cL Tryz.func158 rfl ok158 rfl]
 refine ex_eq ?_
 simp only[Z8,seval,hb,anoU64s _ hl]
 exact⟨_,by apply xcellx;rfl;all_goals simp only[keep_none,Z8,seval,expo_aggq,exq_Table,expo1_ownF,exFU64]<;>rfl,rfl⟩
def AddT (o:Option (List Table)) (t':Table) (L:List Table):Prop:=L.length=(ol o).length+1∧(∀ x∈L,x∈ol o∨x=t')∧∀ x∈ol o,x∈L
theorem x195 (o:Option (List Table)) (hn:((ol o).length:Int) < 999999) (hT:∀ x∈ol o,Flat x.bal) (t:Table) (b:Option (List Int)) (hb:t.bal=ov csU64 b) (hl:((ol b).length:Int) < 1000000) :
 ∃ r,callL Tryz.prog 195 [ov csTable o,.agg (cTable t)]=some r∧∃ L,AddT o ⟨t.ck,ov csU64 (some (ol b))⟩ L∧r=.uniq 118 34 L.length (csTable L):=by
 have hfT:Flat (.agg (cTable t)):=(fl_Table t).2 (by rw[hb];exact flat_ovU64 b)
 have hf2:Flat (.agg (cTable ⟨t.ck,ov csU64 (some (ol b))⟩)):=(fl_Table _).2 (flat_ovU64 (some (ol b)))
 have hto:=flat_ovTable o hT
 have k158:=kx (c158 t b hb hl) (flat1 hfT) hf2
 rw[cG Tryz.func195 rfl ok195 (by kernel_rfl) (by cases o<;>rfl)]
 simp only[ZG,seval,Bool.false_and,Prod.mk.injEq,DY195]
 refine use_loopG (fun m st=>∃ k:Nat,(st.env 0=ov csTable o∧st.env 3=.ptr 3 0 0∧st.heap 3 0=some (.cells (cTable t))∧st.env 5=.v (.int .i64 k))∧k≤(ol o).length∧m=(ol o).length - k)
  (fun e st=>e=.exit 0∧∃ k:Nat,(st.env 0=ov csTable o∧st.env 3=.ptr 3 0 0∧st.heap 3 0=some (.cells (cTable t))∧st.env 5=.v (.int .i64 k))∧k≤(ol o).length) (ol o).length ?step ?start ?rest
 case step =>
  rintro m st ⟨k,hI,hk,hm⟩
  by_cases hlt:(k:Int) < (ol o).length
  ·have q0:(0:Int)≤k:=by omega
   have hw:IntKind.i64.wrap ((k:Int)+1)=((k+1:Nat):Int):=by rw[w64 _ (by omega) (by omega)];omega
   by_cases h1:cmpC (gx zTable (ol o) (k:Int)).ck t.ck < 0
   ·apply oNG ((ol o).length - (k+1))
    ·simp only[ZG,seval,Bool.false_and,Prod.mk.injEq,DY195,hI,hlt,q0,k131,h1,hw]
     rfl
    ·exact⟨k+1,by simp only[E8,seval,hI],by omega,rfl⟩
   ·apply oTG (.exit 0)
    ·simp only[ZG,seval,Bool.false_and,Prod.mk.injEq,DY195,hI,hlt,q0,k131,h1]
     rfl
    ·exact⟨rfl,k,by simp only[E8,seval,hI],hk⟩
  ·apply oTG (.exit 0)
   ·simp only[ZG,seval,Bool.false_and,Prod.mk.injEq,DY195,hI,hlt]
    rfl
   ·exact⟨rfl,k,by simp only[E8,seval,hI],hk⟩
 case start=>exact⟨0,by simp only[E8,seval]<;>rfl,by omega,by omega⟩
 case rest =>
  rintro e st ⟨rfl,k,hI,hk⟩
  have e1:ol (o.map (·.take k))=(ol o).take k:=by cases o<;>simp[ol]
  have e2:ol (o.map (·.drop k))=(ol o).drop k:=by cases o<;>simp[ol]
  have n1:(((ol (o.map (·.take k))).length:Nat):Int) < 1000000:=by rw[e1,List.length_take];omega
  have n2:(((ol (o.map (·.drop k))).length:Nat):Int) < 1000000:=by rw[e2,List.length_drop];omega
  have n3:(((ol (o.map (·.take k)) ++ [(⟨t.ck,ov csU64 (some (ol b))⟩:Table)]).length:Nat):Int) < 1000000:=by rw[List.length_append,e1,List.length_take];simp;omega
  have q0:(0:Int)≤k:=by omega
  have q1:(k:Int)≤((ol o).length:Int):=by omega
  have hr:∀ x∈csTable (ol (o.map (·.take k)) ++ [(⟨t.ck,ov csU64 (some (ol b))⟩:Table)] ++ ol (o.map (·.drop k))),Flat x:=by
   refine flat_csTable _ fun x m=>?_
   rw[e1,e2] at m
   rcases List.mem_append.1 m with m | m
   ·rcases List.mem_append.1 m with m | m
    ·exact hT x (List.mem_of_mem_take m)
    ·rw[List.mem_singleton.1 m];exact flat_ovU64 (some (ol b))
   ·exact hT x (List.mem_of_mem_drop m)
  simp only[ZG,seval,Bool.false_and,Prod.mk.injEq,DY195,fa_oO,fa_Oo,and_self,hI,q0,q1,Int.toNat_natCast,k158,anoTables _ n1,aooTable1 _ _ _ _ n1,aooTables _ _ _ _ n3 n2]
  refine⟨_,xrow rfl (by simp only[E8,seval]<;>rfl) (by simp only[E8,seval]<;>rfl) hr,_,⟨?_,fun x m=>?_,fun x m=>?_⟩,rfl⟩
  ·rw[e1,e2,List.length_append,List.length_append,List.length_take,List.length_drop];simp;omega
  ·rw[e1,e2] at m
   rcases List.mem_append.1 m with m | m
   ·rcases List.mem_append.1 m with m | m
    ·exact .inl (List.mem_of_mem_take m)
    ·exact .inr (List.mem_singleton.1 m)
   ·exact .inl (List.mem_of_mem_drop m)
  ·rw[e1,e2]
   rw[← List.take_append_drop k (ol o)] at m
   rcases List.mem_append.1 m with m | m
   ·exact List.mem_append_left _ (List.mem_append_left _ m)
   ·exact List.mem_append_right _ m
theorem x172 (o:Option (List Table)) (hn:((ol o).length:Int) < 999999) (hT:∀ x∈ol o,TabOk x) (t:Table) (ht:TabOk t) (n lim:Int) :
 ∃ r,callL Tryz.prog 172 [ov csTable o,.agg (cTable t),.v (.int .i64 n),.v (.int .i64 lim)]=some r∧∃ o' e,r=.tup [ov csTable o',.v (.int .i64 e)]∧e≠21∧((ol o').length:Int)≤max ((ol o).length:Int) lim∧(∀ x∈ol o',TabOk x)∧(ol o ⊆ ol o')∧(e=0→o'≠some []∧∀ x∈ol o',x∈ol o∨∃ B,x.bal=ov csU64 (some B)∧(B.length:Int)=n):=by
 obtain⟨b,hb,hl⟩:=id ht
 have hfT:Flat (.agg (cTable t)):=(fl_Table t).2 ht.fl
 have hto:=flat_ovTable o fun x m=>(hT x m).fl
 obtain⟨r,hr,e,rfl,he,hlen⟩:=x130' t b hb hl n
 have k130:=kx hr (flat2 hfT (.v _)) (.v _)
 have hn':((ol o).length:Int) < 1000000:=by omega
 have k65':=k65 o hn' hto
 rw[cL Tryz.func172 rfl ok172 (by cases o<;>rfl)]
 by_cases g1:e=0
 case neg =>
  simp only[Z8,seval,k130,bf g1,expo_ovTable _ _ fun x m=>(hT x m).fl]
  exact⟨_,xtwo rfl rfl rfl (by simp only[E8,seval,expo_ovTable _ _ fun x m=>(hT x m).fl]<;>rfl) (by simp only[E8,seval,expo_ovTable _ _ fun x m=>(hT x m).fl]<;>rfl),o,e,rfl,he,by omega,hT,fun x m=>m,fun h=>absurd h g1⟩
 by_cases g2:0≤ftV (ol o) t.ck
 ·simp only[Z8,seval,k130,bt g1,k65',g2]
  exact⟨_,xtwo rfl rfl rfl (by simp only[E8,seval,expo_ovTable _ _ fun x m=>(hT x m).fl]<;>rfl) (by simp only[E8,seval,expo_ovTable _ _ fun x m=>(hT x m).fl]<;>rfl),o,9,rfl,by decide,by omega,hT,fun x m=>m,fun h=>by cases h⟩
 by_cases g3:lim≤((ol o).length:Int)
 ·simp only[Z8,seval,k130,bt g1,k65',g2,g3]
  exact⟨_,xtwo rfl rfl rfl (by simp only[E8,seval,expo_ovTable _ _ fun x m=>(hT x m).fl]<;>rfl) (by simp only[E8,seval,expo_ovTable _ _ fun x m=>(hT x m).fl]<;>rfl),o,11,rfl,by decide,by omega,hT,fun x m=>m,fun h=>by cases h⟩
 obtain⟨r2,hr2,L,⟨hL1,hL2,hL3⟩,rfl⟩:=x195 o hn (fun x m=>(hT x m).fl) t b hb hl
 have hTL:∀ x∈L,TabOk x:=fun x m=>(hL2 x m).elim (hT x) fun e=>by rw[e];exact⟨some (ol b),rfl,hl⟩
 have k195:∀ (st:St),callFn (callL Tryz.prog) 195 [ov csTable o,.agg (cTable t)] st (some 31)=_:=fun st=>call_uniq (st:=st) (d:=31) (flat2 hto hfT) hr2
 have hex:=exFTable L.length L fun x m=>(hTL x m).fl
 simp only[Z8,seval,k130,bt g1,k65',g2,g3,k195]
 exact⟨_,xtwo rfl rfl rfl (by simp only[E8,seval,hex]<;>rfl) (by simp only[E8,seval,hex]<;>rfl),some L,0,rfl,by decide,by show ((L.length:Nat):Int)≤_;omega,hTL,hL3,fun _=>⟨fun e=>by injection e with e;rw[e] at hL1;simp at hL1,fun x m=>(hL2 x m).imp id fun e=>by rw[e];exact⟨ol b,rfl,hlen g1⟩⟩⟩
theorem x117 {s:Store} {v:SV} (hs:SD s v) (hn:((ol v.T).length:Int) < 999999) (t:Table) (ht:TabOk t) :
 ∃ r,callL Tryz.prog 117 [.agg (cStore s),.agg (cTable t)]=some r∧∃ s' e,r=.tup [.agg (cStore s'),.v (.int .i64 e)]∧Flat (.agg (cStore s'))∧e≠21∧(e=0→∃ o',s'={ s with tables:=ov csTable o' }∧((ol o').length:Int)≤max ((ol v.T).length:Int) s.cFg.lim.tableL∧(∀ x∈ol o',TabOk x)∧(ol v.T ⊆ ol o')∧o'≠some []∧∀ x∈ol o',x∈ol v.T∨∃ B,x.bal=ov csU64 (some B)∧(B.length:Int)=(ol v.B).length):=by
 have hf:=hs.flat
 have hfl:=hs.fl
 have hfT:Flat (.agg (cTable t)):=(fl_Table t).2 ht.fl
 have hz:Flat (.agg (cStore zStore)):=by simp only[FLb,zStore,zConfig,zVotes,zQueues,zTreeA,and_self]
 obtain⟨r,hr,e,rfl,he⟩:=x130 t ht (ol v.B).length
 have k130:=kx hr (flat2 hfT (.v _)) (.v _)
 obtain⟨r2,hr2,o',e2,rfl,he2,hl2,hT2,hsub,hne2⟩:=x172 v.T hn hs.tB t ht (ol v.B).length s.cFg.lim.tableL
 have hf2:Flat (ov csTable o'):=flat_ovTable o' fun x m=>(hT2 x m).fl
 have k172:=kx hr2 (by simp only[List.mem_cons,List.not_mem_nil,or_false,forall_eq_or_imp,forall_eq,fl_v,and_true];exact⟨hs.fT,hfT⟩) (.tup _ (flat2 hf2 (.v _)))
 rw[cL Tryz.func117 rfl ok117 rfl]
 by_cases g1:e=0
 case neg =>
  simp only[Z8,seval,k97 hs,k130,bf g1]
  exact⟨_,by apply xtwo;rfl;all_goals simp only[keep_none,resA,Z8,seval,hz]<;>rfl,zStore,e,rfl,hz,he,fun h=>absurd h g1⟩
 by_cases g2:t.ck.epoch < s.finality.just.epoch
 ·simp only[Z8,seval,k97 hs,k130,bt g1,g2]
  exact⟨_,by apply xtwo;rfl;all_goals simp only[keep_none,resA,Z8,seval,hz]<;>rfl,zStore,13,rfl,hz,by decide,fun h=>by cases h⟩
 by_cases g3:e2=0
 case neg =>
  simp only[Z8,seval,k97 hs,k130,bt g1,g2,hs.tables,k172,extA,bf g3]
  exact⟨_,by apply xtwo;rfl;all_goals simp only[keep_none,resA,Z8,seval,hz]<;>rfl,zStore,e2,rfl,hz,he2,fun h=>absurd h g3⟩
 ·have hf3:Flat (.agg (cStore { s with tables:=ov csTable o' })):=by simp only[FLb,hfl,hf2,and_self]
  simp only[Z8,seval,k97 hs,k130,bt g1,g2,hs.tables,k172,extA,bt g3]
  exact⟨_,by apply xtwo;rfl;all_goals simp only[keep_none,resA,Z8,seval,hf3]<;>rfl,_,0,rfl,hf3,by decide,fun _=>⟨o',rfl,hl2,hT2,hsub,hne2 g3⟩⟩
noncomputable def waiV (v:SV):Int:=fst1 (fun k=>0≤findR v.ns (gx zBlock (ol v.O) k).parent) (ol v.O).length
theorem c218 {s:Store} {v:SV} (hs:SD s v):callL Tryz.prog 218 [.agg (cStore s)]=some (.v (.int .i64 (waiV v))):=by
 have hn:=hs.nO
 rw[cL Tryz.func218 rfl ok218 rfl]
 refine ex_eq ?_
 simp only[Z8,seval,hs.orphans]
 refine use_loopX (fun m st=>∃ k:Nat,(st.env 1=.ptr 1 0 0∧st.heap 1 0=some (.cells (cStore s))∧st.env 3=.v (.int .i64 k))∧(∀ j:Nat,j < k→¬ (0≤findR v.ns (gx zBlock (ol v.O) (j:Int)).parent))∧k≤(ol v.O).length∧m=(ol v.O).length - k)
  (fun e st=>(e=.ret∧∃ k:Nat,k < (ol v.O).length∧(0≤findR v.ns (gx zBlock (ol v.O) (k:Int)).parent)∧(∀ j:Nat,j < k→¬ (0≤findR v.ns (gx zBlock (ol v.O) (j:Int)).parent))∧st.env 2=.v (.int .i64 (k:Nat)))∨(e=.exit 0∧(∀ j:Nat,j < (ol v.O).length→¬ (0≤findR v.ns (gx zBlock (ol v.O) (j:Int)).parent))∧st.env 1=.ptr 1 0 0∧st.heap 1 0=some (.cells (cStore s)))) ((ol v.O).length) ?step ?start ?rest
 case step =>
  rintro m st ⟨k,hI,hj,hk,hm⟩
  by_cases hlt:(k:Int) < (ol v.O).length
  ·have q0:(0:Int)≤k:=by omega
   have hw:IntKind.i64.wrap ((k:Int)+1)=((k+1:Nat):Int):=by rw[w64 _ (by omega) (by omega)];omega
   by_cases hh:0≤findR v.ns (gx zBlock (ol v.O) (k:Int)).parent
   ·apply oT (.ret)
    ·simp only[Z8,seval,hI,hlt,q0,hs.orphans,hs.tree,k46 _ _ hs.nn,hh]
     rfl
    ·exact .inl ⟨rfl,k,by omega,hh,hj,by simp only[E8,seval,hs.orphans,hs.tree,k46 _ _ hs.nn]⟩
   ·apply oN ((ol v.O).length - (k+1))
    ·simp only[Z8,seval,hI,hlt,q0,hs.orphans,hs.tree,k46 _ _ hs.nn,hh,hw]
     rfl
    ·exact⟨k+1,by simp only[E8,seval,hI],fun j h=>(Nat.lt_succ_iff_lt_or_eq.1 h).elim (hj j) fun e=>by subst e;exact hh,by omega,rfl⟩
  ·apply oT (.exit 0)
   ·simp only[Z8,seval,hI,hlt,hs.orphans,hs.tree,k46 _ _ hs.nn]
    rfl
   ·exact .inr ⟨rfl,fun j h=>hj j (by omega),by simp only[E8,seval,hI]⟩
 case start=>exact⟨0,by simp only[E8,seval]<;>rfl,fun j h=>by omega,by omega,by omega⟩
 case rest =>
  rintro e st (⟨rfl,k,hk,hh,hj,h⟩ | ⟨rfl,hj,hI⟩)
  ·have hv:waiV v=k:=fst1_at hh hj _ hk
   simp only[Z8,seval]
   exact⟨_,xtmp rfl (by simp only[E8,seval,h]<;>rfl) (by first | exact .v _ | simp only[FLb,h]),by rw[hv]⟩
  ·have hv:waiV v=-1:=fst1_none _ hj
   simp only[Z8,seval]
   exact⟨_,xtmp rfl (by simp only[E8,seval]<;>rfl) (by first | exact .v _ | simp only[FLb]),by rw[hv]⟩
theorem k218 {s:Store} {v:SV} (hs:SD s v) (st:St) (d:Option Nat):callFn (callL Tryz.prog) 218 [.agg (cStore s)] st d=some { dst:=d,val:=.v (.int .i64 (waiV v))}:=call_flat (flat1 hs.flat) (c218 hs) (.v _)
noncomputable def castS (e:Int) (r:Root) (a:List Vote × Int) (x:Int):List Vote × Int :=
 if (gx zVote a.1 x).has=false∨(gx zVote a.1 x).epoch < e then (a.1.set x.toNat ⟨true,e,r⟩,IntKind.i64.wrap (a.2+1)) else a
noncomputable def castF (L:List Vote) (e:Int) (r:Root) (V:List Int):List Vote × Int:=V.foldl (castS e r) (L,0)
theorem castS_len (e:Int) (r:Root) (a:List Vote × Int) (x:Int):(castS e r a x).1.length=a.1.length:=by unfold castS;split<;>simp
theorem castF_len (L:List Vote) (e:Int) (r:Root) (V:List Int):(castF L e r V).1.length=L.length:=by
 unfold castF
 suffices h:∀ (V:List Int) (a:List Vote × Int),(V.foldl (castS e r) a).1.length=a.1.length from h V _
 intro V
 induction V with
 | nil=>intro a;rfl
 | cons x V ih=>intro a;rw[List.foldl_cons,ih,castS_len]
theorem castF_step (L:List Vote) (e:Int) (r:Root) (V:List Int) (k:Nat) (h:k < V.length):castF L e r (V.take (k+1))=castS e r (castF L e r (V.take k)) (gx (0:Int) V k):=by
 unfold castF
 rw[List.take_succ_eq_append_getElem h,List.foldl_append]
 simp[gx,h]
theorem c110 (o:Option (List Vote)) (hn:((ol o).length:Int) < 1000000) (e:Int) (r:Root) (V:Option (List Int)) (hV:((ol V).length:Int) < 1000000) (hr:∀ x∈ol V,0≤x∧x < (ol o).length) :
 callL Tryz.prog 110 [ov csVote o,.v (.int .u64 e),.agg (cRoot r),ov csInt V]=some (.tup [.sl (ol o).length (csVote (castF (ol o) e r (ol V)).1),.v (.int .i64 (castF (ol o) e r (ol V)).2)]):=by
 rw[cL Tryz.func110 rfl ok110 (by cases o<;>cases V<;>rfl)]
 refine ex_eq ?_
 simp only[Z8,seval,anoVotes _ hn]
 refine use_loopX (fun m st=>∃ (k:Nat) (l:List Vote) (c:Int),(st.env 1=.v (.int .u64 e)∧st.env 6=.ptr 6 0 0∧st.heap 6 0=some (.cells (cRoot r))∧st.env 3=ov csInt V∧st.env 10=.own 15 0∧st.heap 15 0=some (.row 100 34 l.length (csVote l))∧st.env 11=.v (.int .i64 c)∧st.env 12=.v (.int .i64 k))∧castF (ol o) e r ((ol V).take k)=(l,c)∧l.length=(ol o).length∧k≤(ol V).length∧m=(ol V).length - k)
  (fun ex st=>ex=.exit 0∧∃ (l:List Vote) (c:Int),(st.env 10=.own 15 0∧st.heap 15 0=some (.row 100 34 l.length (csVote l))∧st.env 11=.v (.int .i64 c))∧castF (ol o) e r (ol V)=(l,c)∧l.length=(ol o).length) (ol V).length ?step ?start ?rest
 case step =>
  rintro m st ⟨k,l,c,hI,hc,hl,hk,hm⟩
  by_cases hlt:(k:Int) < (ol V).length
  ·have q0:(0:Int)≤k:=by omega
   have hw:IntKind.i64.wrap ((k:Int)+1)=((k+1:Nat):Int):=by rw[w64 _ (by omega) (by omega)];omega
   have hst:=castF_step (ol o) e r (ol V) k (by omega)
   rw[hc] at hst
   unfold castS at hst
   have hx:=hr _ (gx_mem (z:=(0:Int)) q0 hlt)
   obtain⟨x,ex⟩:∃ x,gx (0:Int) (ol V) (k:Int)=x:=⟨_,rfl⟩
   rw[ex] at hx hst
   have x0:0≤x:=hx.1
   have x1:x < (l.length:Int):=by rw[hl];exact hx.2
   have x2:x.toNat < l.length:=by omega
   have x3:x.toNat * 34+34≤l.length * 34:=by omega
   have ld:=ldaVote (T:=100) (n:=l.length) (k:=34) x0 x1 lk100 (by decide) (by decide)
   by_cases h1:(gx zVote l x).has=true
   ·by_cases h2:(gx zVote l x).epoch < e
    ·rw[if_pos (.inr h2)] at hst
     apply oN ((ol V).length - (k+1))
     ·simp only[Z8,seval,hI,hlt,q0,ex,x0,x1,x2,x3,ld,h1,h2,upsVote _ _ _ x2,hw]
      rfl
     ·exact⟨k+1,_,_,by simp only[E8,seval,hI,List.length_set]<;>exact⟨rfl,rfl⟩,hst,by rw[List.length_set,hl],by omega,rfl⟩
    ·rw[if_neg (by simp only[h1,h2,Bool.true_eq_false,or_self,not_false_eq_true])] at hst
     apply oN ((ol V).length - (k+1))
     ·simp only[Z8,seval,hI,hlt,q0,ex,x0,x1,x2,x3,ld,h1,h2,hw]
      rfl
     ·exact⟨k+1,l,c,by simp only[E8,seval,hI],hst,hl,by omega,rfl⟩
   ·have h1':(gx zVote l x).has=false:=by simpa using h1
    rw[if_pos (.inl h1')] at hst
    apply oN ((ol V).length - (k+1))
    ·simp only[Z8,seval,hI,hlt,q0,ex,x0,x1,x2,x3,ld,h1',upsVote _ _ _ x2,hw]
     rfl
    ·exact⟨k+1,_,_,by simp only[E8,seval,hI,List.length_set]<;>exact⟨rfl,rfl⟩,hst,by rw[List.length_set,hl],by omega,rfl⟩
  ·have hkn:k=(ol V).length:=by omega
   rw[hkn,List.take_length] at hc
   apply oT (.exit 0)
   ·simp only[Z8,seval,hI,hlt]
    rfl
   ·exact⟨rfl,l,c,by simp only[E8,seval,hI],hc,hl⟩
 case start=>exact⟨0,ol o,0,by simp only[E8,seval]<;>rfl,rfl,rfl,by omega,by omega⟩
 case rest =>
  rintro ex st ⟨rfl,l,c,hI,hc,hl⟩
  rw[hc]
  simp only[Z8,seval,hI]
  exact⟨_,xtwo rfl rfl rfl (by simp only[E8,seval,hI,exFVote]<;>rfl) (by simp only[E8,seval,hI,exFVote]<;>rfl),by rw[hl]⟩
theorem k110 (o:Option (List Vote)) (hn:((ol o).length:Int) < 1000000) (e:Int) (r:Root) (V:Option (List Int)) (hV:((ol V).length:Int) < 1000000) (hr:∀ x∈ol V,0≤x∧x < (ol o).length) (st:St) (d:Option Nat) :
 callFn (callL Tryz.prog) 110 [ov csVote o,.v (.int .u64 e),.agg (cRoot r),ov csInt V] st d=some { dst:=d,val:=.tup [.sl (ol o).length (csVote (castF (ol o) e r (ol V)).1),.v (.int .i64 (castF (ol o) e r (ol V)).2)]} :=
 call_flat (by simp only[List.mem_cons,List.not_mem_nil,or_false,forall_eq_or_imp,forall_eq,FLb,and_self,and_true,true_and]) (c110 o hn e r V hV hr) (.tup _ (flat2 (.sl _ _ (flat_csVote _)) (.v _)))
noncomputable def casI (s:Store) (v:SV) (a:Att) (V:List Int):Store:={ s with votes:={ s.votes with latest:=ov csVote (some (castF (ol v.L) a.target.epoch a.root V).1)} }
theorem c44 {s:Store} {v:SV} (hs:SD s v) (a:Att) (V:Option (List Int)) (ha:a.vals=ov csInt V) (hV:((ol V).length:Int) < 1000000) (hr:∀ x∈ol V,0≤x∧x < (ol v.L).length) :
 callL Tryz.prog 44 [.agg (cStore s),.agg (cAtt a)]=some (.agg (cStore (casI s v a (ol V)))):=by
 have hfl:=hs.fl
 rw[cL Tryz.func44 rfl ok44 rfl]
 refine ex_eq ?_
 simp only[Z8,seval,hs.latest,ha,k110 v.L hs.nL _ _ V hV hr,extA]
 exact⟨_,xcell rfl (by simp only[E8,seval,hfl,and_self]<;>rfl) (by simp only[Z8,seval,hfl,and_self]<;>rfl) (by simp only[FLb,and_self,hfl,and_self]),by unfold casI;simp only[ov,castF_len]⟩
theorem findR_some (ns:List Node) (r:Root) (h:0≤findR ns r):(nd ns (findR ns r)).block.root=r:=by
 unfold findR at h ⊢
 cases hf:ns.findIdx? (fun n=>decide (n.block.root=r)) with
 | none=>rw[hf] at h;simp only at h;omega
 | some k =>
   obtain⟨hk,hp,_⟩:=List.findIdx?_eq_some_iff_getElem.1 hf
   simp only
   have:nd ns (k:Int)=ns[k]:=by simp[nd,hk]
   rw[this]
   exact of_decide_eq_true hp
theorem findR_ge {ns:List Node} {r:Root} {j:Int} (h0:0≤j) (h1:j < ns.length) (hr:(nd ns j).block.root=r):0≤findR ns r:=by
 unfold findR
 cases hf:ns.findIdx? (fun n=>decide (n.block.root=r)) with
 | none =>
   obtain⟨hj,e⟩:=nd_get h0 h1
   have:=List.findIdx?_eq_none_iff.1 hf ns[j.toNat] (List.getElem_mem hj)
   rw[← e] at this
   simp[hr] at this
 | some k=>simp only;omega
structure GI (s:Store) (v:SV) (q:Int):Prop where
 sd:SD s v
 up:UpOk v.ns
 up0:(nd v.ns 0).up=-1
 pos:0 < v.ns.length
 nl:(v.ns.length:Int)≤s.cFg.lim.nodeL
 nlB:s.cFg.lim.nodeL≤4096
 spe:1≤s.cFg.spe∧s.cFg.spe≤64
 lat:(ol v.L).length=(ol v.B).length
 nB:((ol v.B).length:Int)≤1024
 nO:((ol v.O).length:Int)≤s.cFg.lim.orphL
 nOB:s.cFg.lim.orphL≤64
 nE:((ol v.E).length:Int)≤s.cFg.lim.earlyL
 nEB:s.cFg.lim.earlyL≤256
 nT:((ol v.T).length:Int)≤s.cFg.lim.tableL
 nTB:s.cFg.lim.tableL≤64
 nQ:((ol v.Q).length:Int)≤q
 nQB:q≤900000
 just:0≤findR v.ns s.finality.just.root
theorem GI.sp {s:Store} {v:SV} {q:Int} (h:GI s v q):s.cFg.spe≠0:=by have:=h.spe.1;omega
theorem updS_config (s:Store) (v:SV) (c1 c2:Ckpt):(updS s v c1 c2).cFg=s.cFg:=by unfold updS;split;rfl;split<;>rfl
theorem updS_now (s:Store) (v:SV) (c1 c2:Ckpt):(updS s v c1 c2).now=s.now:=by unfold updS;split;rfl;split<;>rfl
theorem GI.upd {s:Store} {v:SV} {q:Int} (h:GI s v q) (c1 c2:Ckpt):GI (updS s v c1 c2) (updW s v c1 c2) q:=by
 have hsd:=h.sd.upd h.up c1 c2
 by_cases b:cuBad s v (cuJ s c1) (cuF s c2)
 ·rw[show updS s v c1 c2=s from if_pos b,show updW s v c1 c2=v from if_pos b];exact h
 have hJ:0≤findR v.ns (cuJ s c1).root:=by rcases Int.lt_or_le (findR v.ns (cuJ s c1).root) 0 with g | g;exact absurd (.inl g) b;exact g
 have hF:0≤findR v.ns (cuF s c2).root:=by rcases Int.lt_or_le (findR v.ns (cuF s c2).root) 0 with g | g;exact absurd (.inr (.inl g)) b;exact g
 have hA:anc v.ns (findR v.ns (cuF s c2).root) (findR v.ns (cuJ s c1).root)=true:=by
  cases g:anc v.ns (findR v.ns (cuF s c2).root) (findR v.ns (cuJ s c1).root)
  ·exact absurd (.inr (.inr (.inr (.inr (.inr (.inr (.inl g))))))) b
  ·rfl
 have hT:((ol (nz (dtL (ol v.T) (cuJ s c1).epoch))).length:Int)≤s.cFg.lim.tableL:=by
  rw[ol_nz];have:=List.length_filter_le (fun t:Table=>decide ((cuJ s c1).epoch≤t.ck.epoch)) (ol v.T);have:=h.nT;unfold dtL;omega
 by_cases e:cuF s c2=s.finality.fin
 ·have hS:updS s v c1 c2=_:=(if_neg b).trans (if_pos e)
  have hW:updW s v c1 c2=_:=(if_neg b).trans (if_pos e)
  rw[hS,hW] at hsd ⊢
  exact⟨hsd,h.up,h.up0,h.pos,h.nl,h.nlB,h.spe,h.lat,h.nB,h.nO,h.nOB,h.nE,h.nEB,hT,h.nTB,h.nQ,h.nQB,hJ⟩
 ·have hS:updS s v c1 c2=_:=(if_neg b).trans (if_neg e)
  have hW:updW s v c1 c2=_:=(if_neg b).trans (if_neg e)
  rw[hS,hW] at hsd ⊢
  have rF:=findR_range v.ns (cuF s c2).root
  have rJ:=findR_range v.ns (cuJ s c1).root
  have hself:=anc_self h.up hF rF.2
  have h1:=pr_at h.up hself
  have h2:=pr_at h.up hA
  have hz:=pr_zero h.up hself
  have hlen:=pr_len (ns:=v.ns) (findR v.ns (cuF s c2).root)
  have hnl:=h.nl
  refine⟨hsd,pr_upok h.up hself, ?_, ?_, ?_,h.nlB,h.spe,h.lat,h.nB, ?_,h.nOB,h.nE,h.nEB,hT,h.nTB,h.nQ,h.nQB, ?_⟩
  ·rw[hz] at h1
   show (nd (prF v.ns (findR v.ns (cuF s c2).root) v.ns.length).1 0).up=-1
   rw[h1.2.2,if_pos rfl]
  ·have:=h1.2.1;have:=h1.1
   show 0 < (prF v.ns (findR v.ns (cuF s c2).root) v.ns.length).1.length
   omega
  ·show (((prF v.ns (findR v.ns (cuF s c2).root) v.ns.length).1.length:Nat):Int)≤s.cFg.lim.nodeL
   omega
  ·show ((ol (nz _)).length:Int)≤s.cFg.lim.orphL
   rw[ol_nz]
   have:=List.length_filter_le (fun b:Block=>decide ((stV s (cuF s c2).epoch).1 < b.slot)) (ol v.O);have:=h.nO;omega
  ·refine findR_ge h2.1 h2.2.1 ?_
   rw[h2.2.2]
   exact findR_some _ _ hJ
noncomputable def insN (v:SV) (b:Block):List Node:=v.ns ++ [⟨b,findR v.ns b.parent,sofB b⟩]
noncomputable def ins1 (s:Store) (v:SV) (b:Block):Store:={ s with tree:=⟨.sl (insN v b).length (csNode (insN v b))⟩}
noncomputable def ins1W (v:SV) (b:Block):SV:={ v with ns:=insN v b }
noncomputable def ins2 (s:Store) (v:SV) (b:Block):Store:=updS (ins1 s v b) (ins1W v b) b.just b.fin
noncomputable def ins2W (s:Store) (v:SV) (b:Block):SV:=updW (ins1 s v b) (ins1W v b) b.just b.fin
noncomputable def insS (s:Store) (v:SV) (b:Block):Store:=if epV s b.slot < epV s s.now then updS (ins2 s v b) (ins2W s v b) b.pulled.pj b.pulled.pf else ins2 s v b
noncomputable def insW (s:Store) (v:SV) (b:Block):SV:=if epV s b.slot < epV s s.now then updW (ins2 s v b) (ins2W s v b) b.pulled.pj b.pulled.pf else ins2W s v b
theorem isSt_sofB (b:Block):isSt (sofB b)=true:=by unfold sofB;split<;>rfl
theorem cbV_ins {s:Store} {v:SV} {q:Int} (h:GI s v q) {b:Block} (hb:cbV s v b=0):insE v.ns b (sofB b)=0∧(v.ns.length:Int) < s.cFg.lim.nodeL∧0≤findR v.ns b.parent:=by
 unfold cbV at hb
 by_cases g1:b.root=zRoot
 ·rw[if_pos g1] at hb;omega
 rw[if_neg g1] at hb
 by_cases g2:KnB v b.root
 ·rw[if_pos g2] at hb;omega
 rw[if_neg g2] at hb
 by_cases g3:s.now < b.slot
 ·rw[if_pos g3] at hb;omega
 rw[if_neg g3] at hb
 by_cases g4:b.slot≤(stV s s.finality.fin.epoch).1
 ·rw[if_pos g4] at hb;omega
 rw[if_neg g4] at hb
 by_cases g5:findR v.ns b.parent < 0
 ·rw[if_pos g5] at hb;omega
 rw[if_neg g5] at hb
 by_cases g6:b.slot≤(nd v.ns (findR v.ns b.parent)).block.slot
 ·rw[if_pos g6] at hb;omega
 rw[if_neg g6] at hb
 by_cases g7:(nd v.ns (findR v.ns b.parent)).status=2
 ·rw[if_pos g7] at hb;omega
 rw[if_neg g7] at hb
 by_cases g8:¬ FitB s v b
 ·rw[if_pos g8] at hb;omega
 rw[if_neg g8] at hb
 by_cases g9:¬ MFit s.cFg.ttd (nd v.ns (findR v.ns b.parent)).block b
 ·rw[if_pos g9] at hb;omega
 rw[if_neg g9] at hb
 by_cases g10:s.cFg.lim.nodeL≤(v.ns.length:Int)
 ·rw[if_pos g10] at hb;omega
 have:=h.nlB
 refine⟨?_,by omega,by omega⟩
 unfold insE
 rw[isSt_sofB,if_neg (by simp),if_neg (fun h=>g2 (.inr h)),if_neg g5,if_neg g6,if_neg (by omega)]
theorem GI.ins1 {s:Store} {v:SV} {q:Int} (h:GI s v q) {b:Block} (hb:(v.ns.length:Int) < s.cFg.lim.nodeL) (hp:0≤findR v.ns b.parent):GI (ins1 s v b) (ins1W v b) q:=by
 have hlen:(insN v b).length=v.ns.length+1:=by unfold insN;simp
 have hnB:=h.nlB
 have hsd:SD (Tryz.ins1 s v b) (ins1W v b):=⟨h.sd.bal,h.sd.latest,h.sd.equiv,h.sd.early,h.sd.orphans,rfl,h.sd.tables,h.sd.eV,h.sd.tB,h.sd.nB,h.sd.nL,h.sd.nQ,h.sd.nE,h.sd.nO,h.sd.nT,by show ((insN v b).length:Int) < 1000000;omega⟩
 have rp:=findR_range v.ns b.parent
 refine⟨hsd,fun i h0 h1=>?_, ?_, ?_, ?_,h.nlB,h.spe,h.lat,h.nB,h.nO,h.nOB,h.nE,h.nEB,h.nT,h.nTB,h.nQ,h.nQB, ?_⟩
 ·have h1:i < ((insN v b).length:Int):=h1
  show 0≤(nd (insN v b) i).up∧(nd (insN v b) i).up < i
  by_cases hi:i < (v.ns.length:Int)
  ·unfold insN;rw[nd_app_lt (by omega) hi];exact h.up i h0 hi
  ·unfold insN;rw[nd_app_eq (by omega)];exact⟨hp,by show findR v.ns b.parent < i;omega⟩
 ·show (nd (insN v b) 0).up=-1
  unfold insN;rw[nd_app_lt (by omega) (by have:=h.pos;omega)];exact h.up0
 ·show 0 < (insN v b).length;omega
 ·show ((insN v b).length:Int)≤s.cFg.lim.nodeL;omega
 ·show 0≤findR (insN v b) s.finality.just.root
  have rj:=findR_range v.ns s.finality.just.root
  refine findR_ge h.just (by omega) ?_
  unfold insN;rw[nd_app_lt h.just rj.2];exact findR_some _ _ h.just
theorem GI.ins {s:Store} {v:SV} {q:Int} (h:GI s v q) {b:Block} (hb:cbV s v b=0):GI (insS s v b) (insW s v b) q:=by
 obtain⟨_,h2,h3⟩:=cbV_ins h hb
 have g1:=h.ins1 h2 h3
 have g2:=g1.upd b.just b.fin
 unfold insS insW
 split
 ·exact g2.upd _ _
 ·exact g2
theorem insS_config (s:Store) (v:SV) (b:Block):(insS s v b).cFg=s.cFg∧(insS s v b).now=s.now:=by
 unfold insS;split
 ·rw[updS_config,updS_now];unfold ins2;rw[updS_config,updS_now];exact⟨rfl,rfl⟩
 ·unfold ins2;rw[updS_config,updS_now];exact⟨rfl,rfl⟩
theorem c217 {s:Store} {v:SV} {q:Int} (h:GI s v q) {b:Block} (hb:cbV s v b=0):callL Tryz.prog 217 [.agg (cStore s),.agg (cBlock b)]=some (.agg (cStore (insS s v b))):=by
 obtain⟨h1,h2,h3⟩:=cbV_ins h hb
 have g1:=h.ins1 h2 h3
 have g2:=g1.upd b.just b.fin
 have hi:insA v.ns b (sofB b)=.tup [.agg (cTree ⟨insN v b⟩),.v (.int .i64 0)]:=if_pos h1
 have k149':=k149 v.ns h.sd.nn b (sofB b)
 rw[hi] at k149'
 have k61a:=k61 g1.sd g1.up g1.sp b.just b.fin
 have k61b:=k61 g2.sd g2.up g2.sp b.pulled.pj b.pulled.pf
 have hcfg:(updS (Tryz.ins1 s v b) (ins1W v b) b.just b.fin).cFg.spe=s.cFg.spe:=by rw[updS_config];rfl
 have hnow:(updS (Tryz.ins1 s v b) (ins1W v b) b.just b.fin).now=s.now:=by rw[updS_now];rfl
 have hep:∀ x,epV (updS (Tryz.ins1 s v b) (ins1W v b) b.just b.fin) x=epV s x:=fun x=>by unfold epV;rw[hcfg]
 have k98':=k98 (updS (Tryz.ins1 s v b) (ins1W v b) b.just b.fin) g2.sp g2.sd.flat
 have e1:({ cFg:=s.cFg,votes:=s.votes,finality:=s.finality,queues:=s.queues,tree:=⟨.sl (insN v b).length (csNode (insN v b))⟩,now:=s.now,boost:=s.boost,tables:=s.tables }:Store)=Tryz.ins1 s v b:=rfl
 rw[cL Tryz.func217 rfl ok217 rfl]
 refine ex_eq ?_
 by_cases c:epV s b.slot < epV s s.now
 ·have hv:insS s v b=_:=if_pos c
  have hfin:=(g2.upd b.pulled.pj b.pulled.pf).sd.flat
  simp only[Z8,seval,h.sd.tree,k233,k149',extA,e1,k61a,k98',hep,hnow,c,k61b]
  exact⟨_,xcell rfl (by simp only[E8,seval,hfin]<;>rfl) (by simp only[Z8,seval,hfin]<;>rfl) (by simp only[FLb,and_self,hfin]),by rw[hv];rfl⟩
 ·have hv:insS s v b=_:=if_neg c
  have hfin:=g2.sd.flat
  simp only[Z8,seval,h.sd.tree,k233,k149',extA,e1,k61a,k98',hep,hnow,c]
  exact⟨_,xcell rfl (by simp only[E8,seval,hfin]<;>rfl) (by simp only[Z8,seval,hfin]<;>rfl) (by simp only[FLb,and_self,hfin]),by rw[hv];rfl⟩
theorem own_to {L:List Block} {k:Nat} (hk:k≤L.length) (a g:Nat):∃ X,(∀ (st:St) (hi:Operand),st.ev hi=.v (.int .i64 k)→st.heap a g=some (.row 74 238 L.length (csBlock L))→sliceA Tryz.prog st 45 (.own a g) none (some hi)=some X) ∧
 (∀ st:St,st.heap a g=some (.row 74 238 L.length (csBlock L))→sliceView st X=some ((L.take k).length,csBlock (L.take k))):=by
 have hl:(L.take k).length=k:=by simp;omega
 by_cases h0:k=0
 ·subst h0
  refine⟨.sl 0 [],fun st hi he hh=>?_,fun st hh=>by simp[sliceView,csBlock]⟩
  simp[sliceA,sl45,hh,he]
 ·refine⟨.vw a g 0 k,fun st hi he hh=>?_,fun st hh=>?_⟩
  ·have:¬ ((0:Int)=k):=by omega
   simp[sliceA,sl45,hh,he,hk]
   omega
  ·have hb:k * 238≤(csBlock L).length:=by rw[len_csBlock];exact Nat.mul_le_mul_right _ hk
   have:=fm_take (c:=cBlock) (sz:=238) len_cBlock L k
   simp only[sliceView,hh,Nat.zero_add,hb,if_true,List.drop_zero,hl]
   exact congrArg (fun z=>some (k,z)) this
theorem own_from {L:List Block} {k:Nat} (hk:k≤L.length) (a g:Nat):∃ X,(∀ (st:St) (lo:Operand),st.ev lo=.v (.int .i64 k)→st.heap a g=some (.row 74 238 L.length (csBlock L))→sliceA Tryz.prog st 45 (.own a g) (some lo) none=some X) ∧
 (∀ st:St,st.heap a g=some (.row 74 238 L.length (csBlock L))→sliceView st X=some ((L.drop k).length,csBlock (L.drop k))):=by
 have hl:(L.drop k).length=L.length - k:=by simp
 by_cases h0:k=L.length
 ·refine⟨.sl 0 [],fun st lo he hh=>?_,fun st hh=>by rw[h0];simp[sliceView,csBlock]⟩
  simp[sliceA,sl45,hh,he,h0]
 ·refine⟨.vw a g (k * 238) (L.length - k),fun st lo he hh=>?_,fun st hh=>?_⟩
  ·have h1:¬ ((k:Int)=L.length):=by omega
   have h2:((L.length:Int) - (k:Int)).toNat=L.length - k:=by omega
   simp[sliceA,sl45,hh,he,hk,h1,h2]
  ·have hb:k * 238+(L.length - k) * 238≤(csBlock L).length:=by rw[len_csBlock,← Nat.add_mul];exact Nat.mul_le_mul_right _ (by omega)
   have:=fm_drop (c:=cBlock) (sz:=238) len_cBlock L k
   have h3:((csBlock L).drop (k * 238)).length=(L.length - k) * 238:=by rw[List.length_drop,len_csBlock,Nat.sub_mul]
   simp only[sliceView,hh,hb,if_true,hl]
   rw[List.take_of_length_le (by omega)]
   exact congrArg (fun z=>some (L.length - k,z)) this
theorem GI.boost {s:Store} {v:SV} {q:Int} (h:GI s v q) (r:Root):GI { s with boost:=r } v q :=
 ⟨⟨h.sd.bal,h.sd.latest,h.sd.equiv,h.sd.early,h.sd.orphans,h.sd.tree,h.sd.tables,h.sd.eV,h.sd.tB,h.sd.nB,h.sd.nL,h.sd.nQ,h.sd.nE,h.sd.nO,h.sd.nT,h.sd.nn⟩,h.up,h.up0,h.pos,h.nl,h.nlB,h.spe,h.lat,h.nB,h.nO,h.nOB,h.nE,h.nEB,h.nT,h.nTB,h.nQ,h.nQB,h.just⟩
def orS (s:Store) (x:AV):Store:={ s with queues:={ s.queues with orphans:=x }}
theorem GI.orph {s:Store} {v:SV} {q:Int} (h:GI s v q) (O:Option (List Block)) (hO:((ol O).length:Int)≤s.cFg.lim.orphL):GI (orS s (ov csBlock O)) { v with O:=O } q :=
 ⟨⟨h.sd.bal,h.sd.latest,h.sd.equiv,h.sd.early,rfl,h.sd.tree,h.sd.tables,h.sd.eV,h.sd.tB,h.sd.nB,h.sd.nL,h.sd.nQ,h.sd.nE,by have:=h.nOB;show ((ol O).length:Int) < 1000000;omega,h.sd.nT,h.sd.nn⟩,h.up,h.up0,h.pos,h.nl,h.nlB,h.spe,h.lat,h.nB,hO,h.nOB,h.nE,h.nEB,h.nT,h.nTB,h.nQ,h.nQB,h.just⟩
theorem updW_O (s:Store) (v:SV) (c1 c2:Ckpt):(ol (updW s v c1 c2).O).length≤(ol v.O).length:=by
 unfold updW
 split
 ·exact Nat.le_refl _
 split
 ·exact Nat.le_refl _
 ·show (ol (nz _)).length≤_
  rw[ol_nz];exact List.length_filter_le _ _
theorem insW_O (s:Store) (v:SV) (b:Block):(ol (insW s v b).O).length≤(ol v.O).length:=by
 unfold insW
 split
 ·exact Nat.le_trans (updW_O _ _ _ _) (updW_O _ _ _ _)
 ·exact updW_O _ _ _ _
theorem expo_orS {s:Store} {v:SV} (h:SD s v) {O:List Block} {a g:Nat} (st:St) (hh:st.heap a g=some (.row 74 238 O.length (csBlock O))):expo st (.agg (cStore (orS s (.own a g))))=some (.agg (cStore (orS s (ov csBlock (some O))))):=by
 have hfl:=h.fl
 unfold orS
 simp only[expo_aggq,exq_Store,expo1_ownF,hh,exFBlock,expo1_id,FLb,hfl,bnd_some]
 rfl
def Rg (x:Int):Prop:=0≤x∧x < 18446744073709551616
structure RB (b:Block):Prop where
 sl:Rg b.slot
 j:Rg b.just.epoch
 f:Rg b.fin.epoch
 pj:Rg b.pulled.pj.epoch
 pf:Rg b.pulled.pf.epoch
def Pr (r:Root):Prop:=r≠zRoot∧r≠mkRoot 99
theorem nz_ne {α:Type} (l:List α):nz l≠some []:=by
 unfold nz
 split
 ·nofun
 ·rename_i h;intro e;injection e with e;exact h e
structure NEv (v:SV):Prop where
 q:v.Q≠some []
 e:v.E≠some []
 o:v.O≠some []
 t:v.T≠some []
 ea:∀ a∈ol v.E,∃ V,a.vals=ov csInt (some V)∧V≠[]
 tb:∀ t∈ol v.T,∃ B,t.bal=ov csU64 (some B)∧B≠[]
structure RG (s:Store) (v:SV):Prop where
 now:0≤s.now∧s.now≤1099511627776
 j:Rg s.finality.just.epoch
 f:Rg s.finality.fin.epoch
 nd:∀ n∈v.ns,RB n.block∧n.block.slot≤s.now
 or:∀ b∈ol v.O,RB b∧Pr b.root
 rt:∀ n∈v.ns,Pr n.block.root
 fe:s.finality.fin.epoch≤s.finality.just.epoch∧s.finality.just.epoch≤epV s s.now
 ds:(v.ns.map fun n=>n.block.root).Nodup
 tb:∃ t∈ol v.T,t.ck=s.finality.just
 ne:NEv v
theorem nd_mem {ns:List Node} {i:Int} (h0:0≤i) (h1:i < ns.length):nd ns i∈ns:=by
 obtain⟨h,e⟩:=nd_get h0 h1
 rw[e];exact List.getElem_mem h
theorem prF_blk (ns:List Node) (i:Int):∀ k:Nat,k≤ns.length→∀ n∈(prF ns i k).1,∃ a∈ns,n.block=a.block∧n.status=a.status
 | 0,_,n,hn=>by simp[prF] at hn
 | k+1,hk,n,hn=>by
   unfold prF at hn
   simp only at hn
   split at hn
   ·rcases List.mem_append.1 hn with hn | hn
    ·exact prF_blk ns i k (by omega) n hn
    ·rw[List.mem_singleton] at hn
     subst hn
     exact⟨nd ns k,nd_mem (by omega) (by omega),rfl,rfl⟩
   ·exact prF_blk ns i k (by omega) n hn
theorem prF_sub (ns:List Node) (i:Int):∀ k:Nat,k≤ns.length→((prF ns i k).1.map (·.block)).Sublist ((ns.take k).map (·.block))
 | 0,_=>by simp[prF]
 | k+1,hk=>by
   have ih:=prF_sub ns i k (by omega)
   have e:ns.take (k+1)=ns.take k ++ [nd ns k]:=by
    rw[List.take_succ_eq_append_getElem (by omega)]
    have h:k < ns.length:=by omega
    simp[Go.Ab.nd,h]
   unfold prF
   simp only
   rw[e,List.map_append]
   split
   ·rw[List.map_append]
    exact ih.append (by simp)
   ·exact ih.trans (List.sublist_append_left ..)
theorem prF_nodup {ns:List Node} (h:(ns.map fun n=>n.block.root).Nodup) (i:Int):((prF ns i ns.length).1.map fun n=>n.block.root).Nodup:=by
 have h1:=(prF_sub ns i ns.length (Nat.le_refl _)).map (·.root)
 rw[List.take_length] at h1
 simp only[List.map_map] at h1
 exact h.sublist h1
theorem RG.upd {s:Store} {v:SV} (r:RG s v) {c1 c2:Ckpt} (r1:Rg c1.epoch) (r2:Rg c2.epoch):RG (updS s v c1 c2) (updW s v c1 c2):=by
 have hJ:Rg (cuJ s c1).epoch:=by unfold cuJ;split;exact r1;exact r.j
 have hF:Rg (cuF s c2).epoch:=by unfold cuF;split;exact r2;exact r.f
 by_cases b:cuBad s v (cuJ s c1) (cuF s c2)
 ·rw[show updS s v c1 c2=s from if_pos b,show updW s v c1 c2=v from if_pos b];exact r
 have fe:(cuF s c2).epoch≤(cuJ s c1).epoch∧(cuJ s c1).epoch≤epV s s.now:=by
  unfold cuBad at b
  simp only[not_or] at b
  obtain⟨_,_,_,_,_,_,_,b8,b9,_⟩:=b
  omega
 have tb:∃ t∈ol (nz (dtL (ol v.T) (cuJ s c1).epoch)),t.ck=cuJ s c1:=by
  unfold cuBad at b
  simp only[not_or] at b
  obtain⟨_,_,_,_,_,_,_,_,_,b10⟩:=b
  unfold ftV at b10
  rcases fst1_cases (fun k=>(gx zTable (ol v.T) k).ck=cuJ s c1) (ol v.T).length with ⟨e,_⟩ | ⟨k,h1,h2,_,h3⟩
  ·rw[e] at b10;omega
  ·refine⟨gx zTable (ol v.T) k, ?_,h2⟩
   rw[ol_nz]
   refine List.mem_filter.2 ⟨gx_mem (by omega) (by omega),decide_eq_true ?_⟩
   rw[h2];exact Int.le_refl _
 by_cases e:cuF s c2=s.finality.fin
 ·rw[show updS s v c1 c2=_ from (if_neg b).trans (if_pos e),show updW s v c1 c2=_ from (if_neg b).trans (if_pos e)]
  exact⟨r.now,hJ,hF,r.nd,r.or,r.rt,fe,r.ds,tb,⟨r.ne.q,r.ne.e,r.ne.o,nz_ne _,r.ne.ea,fun t ht=>r.ne.tb t (by have ht:t∈ol (nz (dtL (ol v.T) (cuJ s c1).epoch)):=ht;rw[ol_nz] at ht;exact (List.mem_filter.1 ht).1)⟩⟩
 ·rw[show updS s v c1 c2=_ from (if_neg b).trans (if_neg e),show updW s v c1 c2=_ from (if_neg b).trans (if_neg e)]
  refine⟨r.now,hJ,hF,fun n hn=>?_,fun o ho=>?_,fun n hn=>?_,fe,prF_nodup r.ds _,tb,⟨r.ne.q,r.ne.e,nz_ne _,nz_ne _,r.ne.ea,fun t ht=>r.ne.tb t (by have ht:t∈ol (nz (dtL (ol v.T) (cuJ s c1).epoch)):=ht;rw[ol_nz] at ht;exact (List.mem_filter.1 ht).1)⟩⟩
  ·obtain⟨a,ha,e1,_⟩:=prF_blk _ _ _ (Nat.le_refl _) n hn
   rw[e1];exact r.nd a ha
  ·have ho:o∈ol (nz ((ol v.O).filter fun b=>decide ((stV s (cuF s c2).epoch).1 < b.slot))):=ho
   rw[ol_nz] at ho
   exact r.or o (List.mem_filter.1 ho).1
  ·obtain⟨a,ha,e1,_⟩:=prF_blk _ _ _ (Nat.le_refl _) n hn
   rw[e1];exact r.rt a ha
theorem cbV_slot {s:Store} {v:SV} {b:Block} (hb:cbV s v b=0∨cbV s v b=10):b.slot≤s.now:=by
 unfold cbV at hb
 by_cases g1:b.root=zRoot
 ·rw[if_pos g1] at hb;omega
 rw[if_neg g1] at hb
 by_cases g2:KnB v b.root
 ·rw[if_pos g2] at hb;omega
 rw[if_neg g2] at hb
 by_cases g3:s.now < b.slot
 ·rw[if_pos g3] at hb;omega
 ·omega
theorem cbV_new {s:Store} {v:SV} {b:Block} (hb:cbV s v b=0):findR v.ns b.root < 0:=by
 rcases Int.lt_or_le (findR v.ns b.root) 0 with h | h
 ·exact h
 ·unfold cbV at hb
  by_cases g1:b.root=zRoot
  ·rw[if_pos g1] at hb;omega
  ·rw[if_neg g1,if_pos (.inr h)] at hb;omega
theorem findR_not {ns:List Node} {r:Root} (h:findR ns r < 0):r ∉ ns.map fun n=>n.block.root:=by
 intro hm
 obtain⟨n,hn,e⟩:=List.mem_map.1 hm
 obtain⟨k,hk,rfl⟩:=List.getElem_of_mem hn
 have:0≤findR ns r:=findR_ge (j:=(k:Int)) (by omega) (by omega) (by
  have:Go.Ab.nd ns (k:Int)=ns[k]:=by simp[Go.Ab.nd,hk]
  rw[this];exact e)
 omega
theorem RG.ins {s:Store} {v:SV} (r:RG s v) {b:Block} (rb:RB b∧Pr b.root) (hc:cbV s v b=0):RG (insS s v b) (insW s v b):=by
 have hs:=cbV_slot (.inl hc)
 have g1:RG (Tryz.ins1 s v b) (ins1W v b):=⟨r.now,r.j,r.f,fun n hn=>by
  rcases List.mem_append.1 (show n∈v.ns ++ [⟨b,findR v.ns b.parent,sofB b⟩] from hn) with hn | hn
  ·exact r.nd n hn
  ·rw[List.mem_singleton] at hn
   subst hn
   exact⟨rb.1,hs⟩,r.or,fun n hn=>by
  rcases List.mem_append.1 (show n∈v.ns ++ [⟨b,findR v.ns b.parent,sofB b⟩] from hn) with hn | hn
  ·exact r.rt n hn
  ·rw[List.mem_singleton] at hn
   subst hn
   exact rb.2,r.fe,by
  show ((v.ns ++ [(⟨b,findR v.ns b.parent,sofB b⟩:Node)]).map fun n:Node=>n.block.root).Nodup
  rw[List.map_append]
  refine List.nodup_append.2 ⟨r.ds,by simp,fun x hx y hy=>?_⟩
  simp only[List.map_cons,List.map_nil,List.mem_singleton] at hy
  rintro rfl
  exact findR_not (cbV_new hc) (hy ▸ hx),r.tb,⟨r.ne.q,r.ne.e,r.ne.o,r.ne.t,r.ne.ea,r.ne.tb⟩⟩
 have g2:=g1.upd rb.1.j rb.1.f
 unfold insS insW
 split
 ·exact RG.upd g2 rb.1.pj rb.1.pf
 ·exact g2
theorem RG.orph {s:Store} {v:SV} (r:RG s v) (O:Option (List Block)) (x:AV) (h:∀ b∈ol O,RB b∧Pr b.root) (hO:O≠some []):RG (orS s x) { v with O:=O }:=⟨r.now,r.j,r.f,r.nd,h,r.rt,r.fe,r.ds,r.tb,⟨r.ne.q,r.ne.e,hO,r.ne.t,r.ne.ea,r.ne.tb⟩⟩
theorem RG.boost {s:Store} {v:SV} (r:RG s v) (x:Root):RG { s with boost:=x } v:=⟨r.now,r.j,r.f,r.nd,r.or,r.rt,r.fe,r.ds,r.tb,r.ne⟩
theorem GI.mono {s:Store} {v:SV} {q q':Int} (h:GI s v q) (h1:q≤q') (h2:q'≤900000):GI s v q' :=
 ⟨h.sd,h.up,h.up0,h.pos,h.nl,h.nlB,h.spe,h.lat,h.nB,h.nO,h.nOB,h.nE,h.nEB,h.nT,h.nTB,by have:=h.nQ;omega,h2,h.just⟩
theorem hz_zStore:Flat (.agg (cStore zStore)):=by simp only[FLb,zStore,zConfig,zVotes,zQueues,zTreeA,and_self]
def StR (s:Store) (q:Int) (r:AV):Prop:=∃ (s':Store) (e:Int),r=.tup [.agg (cStore s'),.v (.int .i64 e)]∧Flat (.agg (cStore s'))∧e≠21∧(e=0→∃ v',GI s' v' q∧RG s' v'∧s'.cFg=s.cFg)
def StN (s:Store) (v:SV) (q:Int) (r:AV):Prop:=∃ (s':Store) (e:Int),r=.tup [.agg (cStore s'),.v (.int .i64 e)]∧Flat (.agg (cStore s'))∧e≠21∧(e=0→∃ v',GI s' v' q∧RG s' v'∧s'.cFg=s.cFg∧v'.ns=v.ns)
theorem cbV_ne (s:Store) (v:SV) (b:Block):cbV s v b≠21:=by
 unfold cbV
 repeat (split;simp)
 simp
theorem wu64 (x:Int) (h1:0≤x) (h2:x < 18446744073709551616):IntKind.u64.wrap x=x:=by
 unfold IntKind.wrap
 simp[IntKind.signed,IntKind.bits]
 omega
theorem and32 {x:Int} (h0:0≤x) (h1:x < 18446744073709551616):IntKind.u64.wrap ((BitVec.ofInt IntKind.u64.bits x &&& BitVec.ofInt IntKind.u64.bits 4294967295).toNat:Int)=x % 4294967296:=by
 obtain⟨n,rfl⟩:=Int.eq_ofNat_of_zero_le h0
 have hn:n < 18446744073709551616:=by omega
 have e:(BitVec.ofInt IntKind.u64.bits (n:Int) &&& BitVec.ofInt IntKind.u64.bits 4294967295).toNat=n % 4294967296:=by
  rw[BitVec.toNat_and]
  have e1:(BitVec.ofInt IntKind.u64.bits (n:Int)).toNat=n:=by
   rw[BitVec.toNat_ofInt]
   show ((n:Int) % ((2 ^ 64:Nat):Int)).toNat=n
   omega
  have e2:(BitVec.ofInt IntKind.u64.bits 4294967295).toNat=2 ^ 32 - 1:=by decide
  rw[e1,e2,Nat.and_two_pow_sub_one_eq_mod]
 rw[e,wu64 _ (by omega) (by omega)]
 omega
theorem shr32 (x:Int) (h0:0≤x):x.fdiv (2 ^ min 32 IntKind.u64.bits)=x / 4294967296:=by
 have e:(2:Int) ^ min 32 IntKind.u64.bits=4294967296:=by decide
 rw[e,Int.fdiv_eq_ediv_of_nonneg _ (by omega)]
theorem ok187:fnOkN Tryz.f187=true:=by kernel_rfl
theorem c187 {x y:Int} (x0:0≤x) (x1:x < 18446744073709551616) (y0:0≤y) (y1:y≤64):callL Tryz.prog 187 [.v (.int .u64 x),.v (.int .u64 y)]=some (.tup [.v (.int .u64 (x * y / 18446744073709551616)),.v (.int .u64 (IntKind.u64.wrap (x * y)))]):=by
 have a1:=and32 x0 x1
 have a2:=and32 y0 (by omega)
 have s1:=shr32 x x0
 have s2:=shr32 y y0
 have hy:y % 4294967296=y:=by omega
 have hy1:y / 4294967296=0:=by omega
 rw[hy] at a2
 rw[hy1] at s2
 obtain⟨p,hp⟩:∃ p,p=x % 4294967296:=⟨_,rfl⟩
 obtain⟨r,hr⟩:∃ r,r=x / 4294967296:=⟨_,rfl⟩
 have hx:x=r * 4294967296+p:=by omega
 have p0:0≤p∧p < 4294967296:=by omega
 have r0:0≤r∧r < 4294967296:=by omega
 rw[← hp] at a1
 rw[← hr] at s1
 have py:0≤p * y∧p * y≤4294967296 * 64:=⟨Int.mul_nonneg p0.1 y0,Int.mul_le_mul (by omega) y1 y0 (by omega)⟩
 have ry:0≤r * y∧r * y≤4294967295 * 64:=⟨Int.mul_nonneg r0.1 y0,Int.mul_le_mul (by omega) y1 y0 (by omega)⟩
 obtain⟨A,hA⟩:∃ A,A=p * y:=⟨_,rfl⟩
 obtain⟨B,hB⟩:∃ B,B=r * y:=⟨_,rfl⟩
 have hxy:x * y=B * 4294967296+A:=by rw[hx,Int.add_mul,Int.mul_right_comm,← hA,← hB]
 rw[← hA] at py
 rw[← hB] at ry
 have w1:IntKind.u64.wrap A=A:=wu64 _ (by omega) (by omega)
 have w2:IntKind.u64.wrap B=B:=wu64 _ (by omega) (by omega)
 have s3:=shr32 A (by omega)
 obtain⟨C,hC⟩:∃ C,C=B+A / 4294967296:=⟨_,rfl⟩
 have w3:IntKind.u64.wrap (B+A / 4294967296)=C:=by rw[wu64 _ (by omega) (by omega),hC]
 have a3:=and32 (x:=C) (by omega) (by omega)
 have s4:=shr32 C (by omega)
 have s5:=shr32 (C % 4294967296) (by omega)
 have w4:IntKind.u64.wrap (C % 4294967296)=C % 4294967296:=wu64 _ (by omega) (by omega)
 have w5:IntKind.u64.wrap 0=0:=rfl
 have z5:C % 4294967296 / 4294967296=0:=by omega
 have w6:IntKind.u64.wrap (C / 4294967296)=C / 4294967296:=wu64 _ (by omega) (by omega)
 have hfin:x * y / 18446744073709551616=C / 4294967296:=by rw[hxy,hC];omega
 rw[hfin]
 rw[cL Tryz.func187 rfl ok187 rfl]
 simp only[Z8,seval,a1,a2,s1,s2,← hA,← hB,w1,w2,s3,w3,a3,s4,Int.mul_zero,w5,Int.add_zero,w4,s5,z5,Int.zero_add,w6]
 exact xtwo rfl rfl rfl (by simp only[E8,seval]<;>rfl) (by simp only[E8,seval]<;>rfl)
theorem c152 (n:Int):callL Tryz.prog 152 [.v (.int .u64 n)]=some (.v (.bool (decide (1≤n) && decide (n≤64)))):=by
 rw[cL Tryz.func152 rfl ok152 rfl]
 by_cases h:1≤n
 all_goals
  simp only[Z8,seval,h,decide_true,decide_false,Bool.true_and,Bool.false_and]
  exact xtmp rfl (by simp only[E8,seval,h,decide_true,decide_false,Bool.true_and,Bool.false_and]<;>rfl) (.v _)
theorem k152 (n:Int) (st:St) (d:Option Nat):callFn (callL Tryz.prog) 152 [.v (.int .u64 n)] st d=some { dst:=d,val:=.v (.bool (decide (1≤n) && decide (n≤64)))}:=call_flat (flat1 (.v _)) (c152 n) (.v _)
theorem c95 {e p:Int} (e0:0≤e) (e1:e < 18446744073709551616):callL Tryz.prog 95 [.v (.int .u64 e),.v (.int .u64 p)]=some (.tup [.v (.int .u64 (sofV e p).1),.v (.int .i64 (sofV e p).2)]):=by
 unfold sofV
 by_cases h:1≤p∧p≤64
 ·have h1:(decide (1≤p) && decide (p≤64))=true:=by simp[h]
  rw[if_pos h]
  have k187:=kx (c187 e0 e1 (y:=p) (by omega) h.2) (flat2 (.v _) (.v _)) (.tup _ (flat2 (.v _) (.v _)))
  have c153:callL Tryz.prog 153 [.v (.int .u64 e),.v (.int .u64 p)]=some (.tup [.v (.int .u64 (mulV e p).1),.v (.int .i64 (mulV e p).2)]):=by
   rw[cL Tryz.func153 rfl ok153 rfl]
   have ht:Int.tdiv 18446744073709551615 p=18446744073709551615 / p:=Int.tdiv_eq_ediv_of_nonneg (by omega)
   have hd:(18446744073709551615 / p < e)↔18446744073709551615 < e * p:=Int.ediv_lt_iff_lt_mul (by omega)
   have hm:0≤e * p:=Int.mul_nonneg e0 (by omega)
   have hq:=Int.ediv_le_self p (show (0:Int)≤18446744073709551615 by omega)
   have hq0:=Int.ediv_nonneg (show (0:Int)≤18446744073709551615 by omega) (show 0≤p by omega)
   have hw:IntKind.u64.wrap (18446744073709551615 / p)=18446744073709551615 / p:=wu64 _ hq0 (by omega)
   have hp0:p≠0:=by omega
   unfold mulV
   rw[ht,hw]
   by_cases g:e * p / 18446744073709551616=0
   ·rw[if_neg (fun k=>by have:=hd.1 k.2;omega)]
    simp only[Z8,seval,k187,extA,bt g]
    exact xtwo rfl rfl rfl (by simp only[E8,seval]<;>rfl) (by simp only[E8,seval]<;>rfl)
   ·rw[if_pos ⟨hp0,hd.2 (by omega)⟩]
    simp only[Z8,seval,k187,extA,bf g]
    exact xtwo rfl rfl rfl (by simp only[E8,seval]<;>rfl) (by simp only[E8,seval]<;>rfl)
  have k153:=kx c153 (flat2 (.v _) (.v _)) (.tup _ (flat2 (.v _) (.v _)))
  rw[cL Tryz.func95 rfl ok95 rfl]
  simp only[Z8,seval,k152,h1,k153,extA]
  exact xtwo rfl rfl rfl (by simp only[E8,seval]<;>rfl) (by simp only[E8,seval]<;>rfl)
 ·have h1:(decide (1≤p) && decide (p≤64))=false:=by
   rw[Bool.eq_false_iff];intro k;simp at k;exact h k
  rw[if_neg h]
  rw[cL Tryz.func95 rfl ok95 rfl]
  simp only[Z8,seval,k152,h1]
  exact xtwo rfl rfl rfl (by simp only[E8,seval]<;>rfl) (by simp only[E8,seval]<;>rfl)
theorem k95 {e p:Int} (h:Rg e) (st:St) (d:Option Nat):callFn (callL Tryz.prog) 95 [.v (.int .u64 e),.v (.int .u64 p)] st d=some { dst:=d,val:=.tup [.v (.int .u64 (sofV e p).1),.v (.int .i64 (sofV e p).2)]}:=call_flat (flat2 (.v _) (.v _)) (c95 h.1 h.2) (.tup _ (flat2 (.v _) (.v _)))
theorem c94 {s:Store} (h:1≤s.cFg.spe∧s.cFg.spe≤64) (x:Int):callL Tryz.prog 94 [.v (.int .u64 x),.v (.int .u64 s.cFg.spe)]=some (.tup [.v (.int .u64 (epV s x)),.v (.int .i64 0)]):=by
 have h1:(decide (1≤s.cFg.spe) && decide (s.cFg.spe≤64))=true:=by simp[h]
 have h0:(s.cFg.spe=0)=False:=eq_false (by omega)
 rw[cL Tryz.func94 rfl ok94 rfl]
 simp only[Z8,seval,k152,h1,h0]
 exact xtwo rfl rfl rfl (by simp only[E8,seval,epV]<;>rfl) (by simp only[E8,seval,epV]<;>rfl)
theorem k94 {s:Store} (h:1≤s.cFg.spe∧s.cFg.spe≤64) (x:Int) (st:St) (d:Option Nat):callFn (callL Tryz.prog) 94 [.v (.int .u64 x),.v (.int .u64 s.cFg.spe)] st d=some { dst:=d,val:=.tup [.v (.int .u64 (epV s x)),.v (.int .i64 0)]}:=call_flat (flat2 (.v _) (.v _)) (c94 h x) (.tup _ (flat2 (.v _) (.v _)))
noncomputable def cmpN (a b:Wide):Nat→Int
 | 0=>0
 | k+1=>if wb a k < wb b k then -1 else if wb b k < wb a k then 1 else cmpN a b k
theorem cmpN_step (a b:Wide) (k:Nat):cmpN a b (k+1)=if wb a k < wb b k then -1 else if wb b k < wb a k then 1 else cmpN a b k:=rfl
theorem c170 (a b:Wide):callL Tryz.prog 170 [.agg (cWide a),.agg (cWide b)]=some (.v (.int .i64 (cmpN a b 4))):=by
 rw[cL Tryz.func170 rfl ok170 rfl]
 refine ex_eq ?_
 simp only[Z8,seval]
 refine use_loopX (fun m st=>∃ k:Nat,(st.env 2=.ptr 2 0 0∧st.heap 2 0=some (.cells (cWide a))∧st.env 3=.ptr 3 0 0∧st.heap 3 0=some (.cells (cWide b))∧st.env 5=.v (.int .i64 ((k:Int) - 1)))∧cmpN a b k=cmpN a b 4∧k≤4∧m=k)
  (fun e st=>(e=.ret∧st.env 4=.v (.int .i64 (cmpN a b 4)))∨(e=.exit 0∧cmpN a b 4=0)) 4 ?step ?start ?rest
 case step =>
  rintro m st ⟨k,hI,hc,hk,hm⟩
  cases k with
  | zero =>
    have hlt:¬ (0:Int)≤((0:Nat):Int) - 1:=by omega
    apply oT (.exit 0)
    ·simp only[Z8,seval,hI,hlt]
     rfl
    ·exact .inr ⟨rfl,hc.symm⟩
  | succ k =>
    have e1:((k+1:Nat):Int) - 1=(k:Int):=by omega
    rw[e1] at hI
    have hlt:(0:Int)≤k:=by omega
    have q1:(k:Int) < 4:=by omega
    have hw:IntKind.i64.wrap ((k:Int) - 1)=(k:Int) - 1:=w64 _ (by omega) (by omega)
    have ga:=get_cWide a hlt q1
    have gb:=get_cWide b hlt q1
    rw[cmpN_step] at hc
    by_cases h1:wb a k < wb b k
    ·rw[if_pos h1] at hc
     apply oT (.ret)
     ·simp only[Z8,seval,hI,hlt,q1,idx33a,ga,gb,h1]
      rfl
     ·exact .inl ⟨rfl,by simp only[E8,seval,← hc]⟩
    ·rw[if_neg h1] at hc
     by_cases h2:wb b k < wb a k
     ·rw[if_pos h2] at hc
      apply oT (.ret)
      ·simp only[Z8,seval,hI,hlt,q1,idx33a,ga,gb,h1,h2]
       rfl
      ·exact .inl ⟨rfl,by simp only[E8,seval,← hc]⟩
     ·rw[if_neg h2] at hc
      apply oN (k)
      ·simp only[Z8,seval,hI,hlt,q1,idx33a,ga,gb,h1,h2,hw]
       rfl
      ·exact⟨k,by simp only[E8,seval,hI],hc,by omega,rfl⟩
 case start=>exact⟨4,by simp only[E8,seval]<;>rfl,rfl,by omega,by omega⟩
 case rest =>
  rintro e st (⟨rfl,h⟩ | ⟨rfl,h⟩)
  ·simp only[Z8,seval]
   exact⟨_,xtmp rfl (by simp only[E8,seval,h]<;>rfl) (by first | exact .v _ | simp only[FLb,h]),rfl⟩
  ·simp only[Z8,seval]
   exact⟨_,xtmp rfl (by simp only[E8,seval]<;>rfl) (by first | exact .v _ | simp only[FLb]),by rw[h]⟩
theorem cmpW_eq (a b:Wide):cmpW a b=cmpN a b 4:=by
 have h:=(Classical.choose_spec (x170 a b)).symm.trans (c170 a b)
 injection h with h
 injection h with h
 injection h
theorem c168 (a b:Wide):callL Tryz.prog 168 [.agg (cWide a),.agg (cWide b)]=some (.v (.int .i64 (cmpW a b))):=by
 rw[cmpW_eq]
 rw[cL Tryz.func168 rfl ok168 rfl]
 refine ex_eq ?_
 simp only[Z8,seval]
 refine use_loopX (fun m st=>∃ k:Nat,(st.env 2=.ptr 2 0 0∧st.heap 2 0=some (.cells (cWide a))∧st.env 3=.ptr 3 0 0∧st.heap 3 0=some (.cells (cWide b))∧st.env 5=.v (.int .i64 ((k:Int) - 1)))∧cmpN a b k=cmpN a b 4∧k≤4∧m=k)
  (fun e st=>(e=.ret∧st.env 4=.v (.int .i64 (cmpN a b 4)))∨(e=.exit 0∧cmpN a b 4=0)) 4 ?step ?start ?rest
 case step =>
  rintro m st ⟨k,hI,hc,hk,hm⟩
  cases k with
  | zero =>
    have hlt:¬ (0:Int)≤((0:Nat):Int) - 1:=by omega
    apply oT (.exit 0)
    ·simp only[Z8,seval,hI,hlt]
     rfl
    ·exact .inr ⟨rfl,hc.symm⟩
  | succ k =>
    have e1:((k+1:Nat):Int) - 1=(k:Int):=by omega
    rw[e1] at hI
    have hlt:(0:Int)≤k:=by omega
    have q1:(k:Int) < 4:=by omega
    have hw:IntKind.i64.wrap ((k:Int) - 1)=(k:Int) - 1:=w64 _ (by omega) (by omega)
    have ga:=get_cWide a hlt q1
    have gb:=get_cWide b hlt q1
    rw[cmpN_step] at hc
    by_cases h1:wb a k < wb b k
    ·rw[if_pos h1] at hc
     apply oT (.ret)
     ·simp only[Z8,seval,hI,hlt,q1,idx33a,ga,gb,h1]
      rfl
     ·exact .inl ⟨rfl,by simp only[E8,seval,← hc]⟩
    ·rw[if_neg h1] at hc
     by_cases h2:wb b k < wb a k
     ·rw[if_pos h2] at hc
      apply oT (.ret)
      ·simp only[Z8,seval,hI,hlt,q1,idx33a,ga,gb,h1,h2]
       rfl
      ·exact .inl ⟨rfl,by simp only[E8,seval,← hc]⟩
     ·rw[if_neg h2] at hc
      apply oN (k)
      ·simp only[Z8,seval,hI,hlt,q1,idx33a,ga,gb,h1,h2,hw]
       rfl
      ·exact⟨k,by simp only[E8,seval,hI],hc,by omega,rfl⟩
 case start=>exact⟨4,by simp only[E8,seval]<;>rfl,rfl,by omega,by omega⟩
 case rest =>
  rintro e st (⟨rfl,h⟩ | ⟨rfl,h⟩)
  ·simp only[Z8,seval]
   exact⟨_,xtmp rfl (by simp only[E8,seval,h]<;>rfl) (by first | exact .v _ | simp only[FLb,h]),rfl⟩
  ·simp only[Z8,seval]
   exact⟨_,xtmp rfl (by simp only[E8,seval]<;>rfl) (by first | exact .v _ | simp only[FLb]),by rw[h]⟩
theorem k168 (a b:Wide) (st:St) (d:Option Nat):callFn (callL Tryz.prog) 168 [.agg (cWide a),.agg (cWide b)] st d=some { dst:=d,val:=.v (.int .i64 (cmpW a b))}:=call_flat (flat2 (.agg _ (flat_cWide a)) (.agg _ (flat_cWide b))) (c168 a b) (.v _)
theorem c167 (p b:Block):callL Tryz.prog 167 [.agg (cBlock p),.agg (cBlock b)]=some (.v (.bool (decide (p.payload=zRoot) && !decide (b.payload=zRoot)))):=by
 rw[cL Tryz.func167 rfl ok167 rfl]
 by_cases h:p.payload=zRoot
 all_goals
  simp only[h,decide_true,decide_false,Bool.not_true,Bool.not_false,Bool.true_and,Bool.false_and]
  simp only[Z8,seval,k112,h,decide_true,decide_false]
  exact xtmp rfl (by simp only[E8,seval]<;>rfl) (.v _)
theorem k167 (p b:Block) (st:St) (d:Option Nat):callFn (callL Tryz.prog) 167 [.agg (cBlock p),.agg (cBlock b)] st d=some { dst:=d,val:=.v (.bool (decide (p.payload=zRoot) && !decide (b.payload=zRoot)))}:=call_flat (flat2 (flatB p) (flatB b)) (c167 p b) (.v _)
theorem c113 (ttd:Wide) (p b:Block):callL Tryz.prog 113 [.agg (cWide ttd),.agg (cBlock p),.agg (cBlock b)]=some (.v (.bool (decide (MFit ttd p b)))):=by
 rw[cL Tryz.func113 rfl ok113 rfl]
 unfold MFit
 by_cases hp:p.payload=zRoot
 ·by_cases h:b.payload=zRoot
  ·simp only[h,hp,forall_const,ne_eq,not_true_eq_false,false_implies,and_true,decide_true]
   simp only[Z8,seval,h,hp,k167,k112,decide_true,decide_false,Bool.not_true,Bool.and_false,Bool.true_and]
   exact xtmp rfl (by simp only[E8,seval]<;>rfl) (.v _)
  ·simp only[h,hp,ne_eq,not_false_eq_true,forall_const,false_implies,true_and]
   by_cases h1:cmpW b.pdiff ttd < 0
   ·simp only[h1,true_and]
    simp only[Z8,seval,h,hp,k167,k168,h1,decide_true,decide_false,Bool.not_false,Bool.true_and]
    exact xtmp rfl (by simp only[E8,seval]<;>rfl) (.v _)
   ·simp only[h1,false_and,decide_false]
    simp only[Z8,seval,h,hp,k167,k168,h1,decide_true,decide_false,Bool.not_false,Bool.true_and]
    exact xtmp rfl (by simp only[E8,seval]<;>rfl) (.v _)
 ·by_cases h:b.payload=zRoot
  all_goals
   simp only[h,hp,ne_eq,not_true_eq_false,not_false_eq_true,forall_const,false_implies,implies_true,and_self,and_true,decide_true,decide_false]
   simp only[Z8,seval,h,hp,k167,k112,decide_true,decide_false,Bool.not_true,Bool.not_false,Bool.false_and]
   exact xtmp rfl (by simp only[E8,seval]<;>rfl) (.v _)
theorem k113 (ttd:Wide) (p b:Block) (st:St) (d:Option Nat):callFn (callL Tryz.prog) 113 [.agg (cWide ttd),.agg (cBlock p),.agg (cBlock b)] st d=some { dst:=d,val:=.v (.bool (decide (MFit ttd p b)))}:=call_flat (flat3 (.agg _ (flat_cWide ttd)) (flatB p) (flatB b)) (c113 ttd p b) (.v _)
theorem x250 (o:Option (List Root)) (hn:((ol o).length:Int) < 1000000) (r:Root):∃ x,callL Tryz.prog 250 [ov csRoot o,.agg (cRoot r)]=some x∧∃ b:Bool,x=.v (.bool b):=by
 rw[cL Tryz.func250 rfl ok250 (by cases o<;>rfl)]
 simp only[Z8,seval]
 refine use_loopX (fun m st=>∃ k:Nat,(st.env 0=ov csRoot o∧st.env 3=.ptr 3 0 0∧st.heap 3 0=some (.cells (cRoot r))∧st.env 5=.v (.int .i64 k))∧(∀ j:Nat,j < k→¬ (gx zRoot (ol o) (j:Int)=r))∧k≤(ol o).length∧m=(ol o).length - k)
  (fun e st=>(e=.ret∧∃ k:Nat,k < (ol o).length∧(gx zRoot (ol o) (k:Int)=r)∧(∀ j:Nat,j < k→¬ (gx zRoot (ol o) (j:Int)=r))∧st.env 4=.v (.bool true))∨(e=.exit 0∧(∀ j:Nat,j < (ol o).length→¬ (gx zRoot (ol o) (j:Int)=r))∧st.env 0=ov csRoot o∧st.env 3=.ptr 3 0 0∧st.heap 3 0=some (.cells (cRoot r)))) ((ol o).length) ?step ?start ?rest
 case step =>
  rintro m st ⟨k,hI,hj,hk,hm⟩
  by_cases hlt:(k:Int) < (ol o).length
  ·have q0:(0:Int)≤k:=by omega
   have hw:IntKind.i64.wrap ((k:Int)+1)=((k+1:Nat):Int):=by rw[w64 _ (by omega) (by omega)];omega
   by_cases hh:gx zRoot (ol o) (k:Int)=r
   ·apply oT (.ret)
    ·simp only[Z8,seval,hI,hlt,q0,hh]
     rfl
    ·exact .inl ⟨rfl,k,by omega,hh,hj,by simp only[E8,seval]⟩
   ·apply oN ((ol o).length - (k+1))
    ·simp only[Z8,seval,hI,hlt,q0,hh,hw]
     rfl
    ·exact⟨k+1,by simp only[E8,seval,hI],fun j h=>(Nat.lt_succ_iff_lt_or_eq.1 h).elim (hj j) fun e=>by subst e;exact hh,by omega,rfl⟩
  ·apply oT (.exit 0)
   ·simp only[Z8,seval,hI,hlt]
    rfl
   ·exact .inr ⟨rfl,fun j h=>hj j (by omega),by simp only[E8,seval,hI]⟩
 case start=>exact⟨0,by simp only[E8,seval]<;>rfl,fun j h=>by omega,by omega,by omega⟩
 case rest =>
  rintro e st (⟨rfl,k,hk,hh,hj,h⟩ | ⟨rfl,hj,hI⟩)
  ·simp only[Z8,seval]
   exact⟨_,xtmp rfl (by simp only[E8,seval,h]<;>rfl) (by first | exact .v _ | simp only[FLb,h]),_,rfl⟩
  ·simp only[Z8,seval]
   exact⟨_,xtmp rfl (by simp only[E8,seval]<;>rfl) (by first | exact .v _ | simp only[FLb]),_,rfl⟩
theorem ftV_range (l:List Table) (c:Ckpt):-1≤ftV l c∧ftV l c < l.length:=fst1_range _ _
theorem x239 {s:Store} {v:SV} (hs:SD s v):∃ x,callL Tryz.prog 239 [.agg (cStore s)]=some x∧∃ o:Option (List Int),x=ov csU64 o∧((ol o).length:Int) < 1000000:=by
 have hft:=hs.fT
 rw[cL Tryz.func239 rfl ok239 rfl]
 have r1:=ftV_range (ol v.T) s.finality.just
 by_cases g1:ftV (ol v.T) s.finality.just < 0
 ·simp only[Z8,seval,hs.tables,k65 _ hs.nT hft,g1]
  exact⟨_,xtmp rfl (by simp only[E8,seval]<;>rfl) (by first | exact .v _ | simp only[FLb]),none,rfl,by simp[ol]⟩
 have q0:0≤ftV (ol v.T) s.finality.just:=by omega
 obtain⟨b,hb,hl⟩:=hs.tB _ (gx_mem (z:=zTable) q0 r1.2)
 simp only[Z8,seval,hs.tables,k65 _ hs.nT hft,g1,q0,r1,hb]
 exact⟨_,xtmp rfl (by simp only[E8,seval,hb]<;>rfl) (flat_ovU64 b),b,rfl,hl⟩
theorem x234 (a b:Claim) (ha:Flat a.vals) (hb:Flat b.vals):∃ x,callL Tryz.prog 234 [.agg (cClaim a),.agg (cClaim b)]=some x∧∃ c:Bool,x=.v (.bool c):=by
 rw[cL Tryz.func234 rfl ok234 rfl]
 by_cases g1:a.target=b.target
 ·by_cases g2:a.source=b.source
  ·by_cases g3:a.root=b.root
   all_goals
    have g4:¬ a.source < b.source:=by omega
    have g5:¬ b.source < a.source:=by omega
    simp only[Z8,seval,bt g1,bt g2,g3,g4,g5]
    exact⟨_,xtmp rfl (by simp only[E8,seval]<;>rfl) (by first | exact .v _ | simp only[FLb]),_,rfl⟩
  ·by_cases g4:a.source < b.source
   all_goals
    by_cases g5:b.source < a.source
    all_goals
     by_cases g6:b.target < a.target
     all_goals
      by_cases g7:a.target < b.target
      all_goals
       simp only[Z8,seval,bt g1,bf g2,g4,g5,g6,g7]
       exact⟨_,xtmp rfl (by simp only[E8,seval]<;>rfl) (by first | exact .v _ | simp only[FLb]),_,rfl⟩
 ·by_cases g4:a.source < b.source
  all_goals
   by_cases g5:b.source < a.source
   all_goals
    by_cases g6:b.target < a.target
    all_goals
     by_cases g7:a.target < b.target
     all_goals
      simp only[Z8,seval,bf g1,g4,g5,g6,g7]
      exact⟨_,xtmp rfl (by simp only[E8,seval]<;>rfl) (by first | exact .v _ | simp only[FLb]),_,rfl⟩
theorem x209 {s:Store} {v:SV} (hs:SD s v):∃ x,callL Tryz.prog 209 [.agg (cStore s)]=some x∧∃ r:Root,x=.agg (cRoot r):=by
 rw[cL Tryz.func209 rfl ok209 rfl]
 have r1:=findR_range v.ns s.finality.just.root
 by_cases g1:0≤findR v.ns s.finality.just.root
 ·by_cases g2:(nd v.ns (findR v.ns s.finality.just.root)).status=1
  ·simp only[Z8,seval,hs.tree,k46 _ _ hs.nn,g1,r1,bt g2]
   exact⟨_,xcell rfl (by simp only[E8,seval]<;>rfl) (by simp only[Z8,seval]<;>rfl) (by simp only[FLb,and_self]),_,rfl⟩
  ·simp only[Z8,seval,hs.tree,k46 _ _ hs.nn,g1,r1,bf g2]
   exact⟨_,xcell rfl (by simp only[E8,seval]<;>rfl) (by simp only[Z8,seval]<;>rfl) (by simp only[FLb,and_self]),_,rfl⟩
 ·simp only[Z8,seval,hs.tree,k46 _ _ hs.nn,g1]
  exact⟨_,xcell rfl (by simp only[E8,seval]<;>rfl) (by simp only[Z8,seval]<;>rfl) (by simp only[FLb,and_self]),_,rfl⟩
theorem x240 (c:Config) (hc:Flat c.bal) (x:Int):∃ r,callL Tryz.prog 240 [.agg (cConfig c),.v (.int .u64 x)]=some r∧∃ a e:Int,r=.tup [.v (.int .u64 a),.v (.int .i64 e)]:=by
 rw[cL Tryz.func240 rfl ok240 rfl]
 by_cases g1:c.spe < 1
 ·simp only[Z8,seval,g1]
  exact⟨_,xtwo rfl rfl rfl (by simp only[E8,seval]<;>rfl) (by simp only[E8,seval]<;>rfl),_,_,rfl⟩
 by_cases g2:64 < c.spe
 ·simp only[Z8,seval,g1,g2]
  exact⟨_,xtwo rfl rfl rfl (by simp only[E8,seval]<;>rfl) (by simp only[E8,seval]<;>rfl),_,_,rfl⟩
 by_cases g3:100 < c.boostP
 ·simp only[Z8,seval,g1,g2,g3]
  exact⟨_,xtwo rfl rfl rfl (by simp only[E8,seval]<;>rfl) (by simp only[E8,seval]<;>rfl),_,_,rfl⟩
 by_cases g4:4611686018427387904 < x
 ·simp only[Z8,seval,g1,g2,g3,g4]
  exact⟨_,xtwo rfl rfl rfl (by simp only[E8,seval]<;>rfl) (by simp only[E8,seval]<;>rfl),_,_,rfl⟩
 have g5:(c.spe=0)=False:=eq_false (by omega)
 simp only[Z8,seval,g1,g2,g3,g4,g5]
 exact⟨_,xtwo rfl rfl rfl (by simp only[E8,seval]<;>rfl) (by simp only[E8,seval]<;>rfl),_,_,rfl⟩
noncomputable def conB (o:Option (List Root)) (r:Root):Bool:=if h:((ol o).length:Int) < 1000000 then Classical.choose (Classical.choose_spec (x250 o h r)).2 else false
theorem k250 (o:Option (List Root)) (hn:((ol o).length:Int) < 1000000) (r:Root) (st:St) (d:Option Nat):callFn (callL Tryz.prog) 250 [ov csRoot o,.agg (cRoot r)] st d=some { dst:=d,val:=.v (.bool (conB o r))}:=by
 have h:=(Classical.choose_spec (x250 o hn r)).1
 rw[Classical.choose_spec (Classical.choose_spec (x250 o hn r)).2] at h
 rw[show conB o r=Classical.choose (Classical.choose_spec (x250 o hn r)).2 from dif_pos hn]
 exact call_flat (flat2 (flat_ovRoot o) (flatR r)) h (.v _)
theorem x235 (o:Option (List Int)) (hn:((ol o).length:Int) < 999999) (x:Int):∃ r,callL Tryz.prog 235 [ov csInt o,.v (.int .i64 x)]=some r∧(r=ov csInt o∨∃ L:List Int,r=.uniq 3 1 L.length (csInt L)∧L.length=(ol o).length+1):=by
 rw[cG Tryz.func235 rfl ok235 (by kernel_rfl) (by cases o<;>rfl)]
 simp only[ZG,seval,Bool.false_and,Prod.mk.injEq,DY235]
 refine use_loopG (fun m st=>∃ k:Nat,(st.env 0=ov csInt o∧st.env 1=.v (.int .i64 x)∧st.env 5=.v (.int .i64 k))∧k≤(ol o).length∧m=(ol o).length - k)
  (fun e st=>e=.exit 0∧∃ k:Nat,(st.env 0=ov csInt o∧st.env 1=.v (.int .i64 x)∧st.env 5=.v (.int .i64 k))∧k≤(ol o).length) (ol o).length ?step ?start ?rest
 case step =>
  rintro m st ⟨k,hI,hk,hm⟩
  by_cases hlt:(k:Int) < (ol o).length
  ·have q0:(0:Int)≤k:=by omega
   have hw:IntKind.i64.wrap ((k:Int)+1)=((k+1:Nat):Int):=by rw[w64 _ (by omega) (by omega)];omega
   by_cases h1:gx (0:Int) (ol o) (k:Int) < x
   ·apply oNG ((ol o).length - (k+1))
    ·simp only[ZG,seval,Bool.false_and,Prod.mk.injEq,DY235,hI,hlt,q0,h1,hw]
     rfl
    ·exact⟨k+1,by simp only[E8,seval,hI],by omega,rfl⟩
   ·apply oTG (.exit 0)
    ·simp only[ZG,seval,Bool.false_and,Prod.mk.injEq,DY235,hI,hlt,q0,h1]
     rfl
    ·exact⟨rfl,k,by simp only[E8,seval,hI],hk⟩
  ·apply oTG (.exit 0)
   ·simp only[ZG,seval,Bool.false_and,Prod.mk.injEq,DY235,hI,hlt]
    rfl
   ·exact⟨rfl,k,by simp only[E8,seval,hI],hk⟩
 case start=>exact⟨0,by simp only[E8,seval]<;>rfl,by omega,by omega⟩
 case rest =>
  rintro e st ⟨rfl,k,hI,hk⟩
  have e1:ol (o.map (·.take k))=(ol o).take k:=by cases o<;>simp[ol]
  have e2:ol (o.map (·.drop k))=(ol o).drop k:=by cases o<;>simp[ol]
  have n1:((((ol o).take k).length:Nat):Int) < 1000000:=by rw[List.length_take];omega
  have n2:((((ol o).drop k).length:Nat):Int) < 1000000:=by rw[List.length_drop];omega
  have n3:((((ol o).take k ++ [x]).length:Nat):Int) < 1000000:=by rw[List.length_append,List.length_take];simp;omega
  have q0:(0:Int)≤k:=by omega
  have q1:(k:Int)≤((ol o).length:Int):=by omega
  have go:∃ r,some (AV.uniq 3 1 ((ol o).take k ++ [x] ++ (ol o).drop k).length (csInt ((ol o).take k ++ [x] ++ (ol o).drop k)))=some r∧(r=ov csInt o∨∃ L:List Int,r=.uniq 3 1 L.length (csInt L)∧L.length=(ol o).length+1) :=
   ⟨_,rfl,.inr ⟨_,rfl,by simp;omega⟩⟩
  by_cases hlt:(k:Int) < (ol o).length
  ·by_cases h2:gx (0:Int) (ol o) (k:Int)=x
   ·simp only[ZG,seval,Bool.false_and,Prod.mk.injEq,DY235,hI,hlt,q0,bt h2]
    exact⟨_,xtmp rfl (by simp only[E8,seval,hI]<;>rfl) (flat_ovInt o),.inl rfl⟩
   ·simp only[ZG,seval,Bool.false_and,Prod.mk.injEq,DY235,fa_oO,fa_Oo,and_self,hI,hlt,q0,q1,bf h2,Int.toNat_natCast,e1,e2,anoInts _ n1,aooInt1 _ _ _ _ n1,aooInts _ _ _ _ n3 n2]
    refine⟨_,xrow rfl (by simp only[E8,seval]<;>rfl) (by simp only[E8,seval]<;>rfl) (flat_csInt _),.inr ⟨_,rfl,by simp;omega⟩⟩
  ·simp only[ZG,seval,Bool.false_and,Prod.mk.injEq,DY235,fa_oO,fa_Oo,and_self,hI,hlt,q0,q1,Int.toNat_natCast,e1,e2,anoInts _ n1,aooInt1 _ _ _ _ n1,aooInts _ _ _ _ n3 n2]
   refine⟨_,xrow rfl (by simp only[E8,seval]<;>rfl) (by simp only[E8,seval]<;>rfl) (flat_csInt _),.inr ⟨_,rfl,by simp;omega⟩⟩
theorem c49o (o:Option (List Int)) (hn:((ol o).length:Int) < 1000000) (a:Int):callL Tryz.prog 49 [ov csInt o,.v (.int .i64 a)]=some (.v (.bool (decide (a∈ol o)))):=by
 cases o with
 | none=>rw[show ol (none:Option (List Int))=[] from rfl];simp only[List.not_mem_nil,decide_false];exact c49n a
 | some l=>exact c49 l a hn
theorem k49o (o:Option (List Int)) (hn:((ol o).length:Int) < 1000000) (a:Int) (st:St) (d:Option Nat):callFn (callL Tryz.prog) 49 [ov csInt o,.v (.int .i64 a)] st d=some { dst:=d,val:=.v (.bool (decide (a∈ol o)))}:=call_flat (flat2 (flat_ovInt o) (.v _)) (c49o o hn a) (.v _)
theorem x248 (t:Votes) (L:Option (List Vote)) (Q:Option (List Int)) (hL:t.latest=ov csVote L) (hQ:t.equiv=ov csInt Q) (nL:((ol L).length:Int) < 1000000) (nQ:((ol Q).length:Int) < 1000000)
 (B:Option (List Int)) (nB:((ol B).length:Int) < 1000000) (R:Option (List Root)) (nR:((ol R).length:Int) < 1000000) :
 ∃ r,callL Tryz.prog 248 [.agg (cVotes t),ov csU64 B,ov csRoot R]=some r∧∃ a:Int,r=.v (.int .u64 a):=by
 rw[cL Tryz.func248 rfl ok248 (by cases B<;>cases R<;>rfl)]
 simp only[Z8,seval]
 refine use_loopX (fun m st=>∃ (k:Nat) (a:Int),(st.env 1=ov csU64 B∧st.env 2=ov csRoot R∧st.env 3=.ptr 3 0 0∧st.heap 3 0=some (.cells (cVotes t))∧st.env 7=.v (.int .u64 a)∧st.env 8=.v (.int .i64 k))∧k≤(ol B).length∧m=(ol B).length - k)
  (fun e st=>e=.exit 0∧∃ a:Int,st.env 7=.v (.int .u64 a)) (ol B).length ?step ?start ?rest
 case step =>
  rintro m st ⟨k,a,hI,hk,hm⟩
  by_cases hlt:(k:Int) < (ol B).length
  ·have q0:(0:Int)≤k:=by omega
   have hw:IntKind.i64.wrap ((k:Int)+1)=((k+1:Nat):Int):=by rw[w64 _ (by omega) (by omega)];omega
   by_cases h1:(k:Int) < (ol L).length
   ·cases h2:(gx zVote (ol L) (k:Int)).has
    ·apply oN ((ol B).length - (k+1))
     ·simp only[Z8,seval,hI,hlt,q0,hL,hQ,h1,h2,hw]
      rfl
     ·exact⟨k+1,_,by simp only[E8,seval,hI]<;>rfl,by omega,rfl⟩
    ·by_cases h3:(k:Int)∈ol Q
     ·apply oN ((ol B).length - (k+1))
      ·simp only[Z8,seval,hI,hlt,q0,hL,hQ,h1,h2,k49o Q nQ,h3,decide_true,hw]
       rfl
      ·exact⟨k+1,_,by simp only[E8,seval,hI]<;>rfl,by omega,rfl⟩
     ·cases h4:conB R (gx zVote (ol L) (k:Int)).root
      all_goals
       refine go_on (st':=?_) ?_ ((ol B).length - (k+1)) (by omega) ?_
       rotate_left
       ·simp only[Z8,seval,hI,hlt,q0,hL,hQ,h1,h2,k49o Q nQ,h3,decide_false,k250 R nR,h4,hw]
        rfl
       ·exact⟨k+1,_,by simp only[E8,seval,hI]<;>rfl,by omega,rfl⟩
   ·apply oT (.exit 0)
    ·simp only[Z8,seval,hI,hlt,q0,hL,h1]
     rfl
    ·exact⟨rfl,a,by simp only[E8,seval,hI]⟩
  ·apply oT (.exit 0)
   ·simp only[Z8,seval,hI,hlt]
    rfl
   ·exact⟨rfl,a,by simp only[E8,seval,hI]⟩
 case start=>exact⟨0,0,by simp only[E8,seval]<;>rfl,by omega,by omega⟩
 case rest =>
  rintro e st ⟨rfl,a,h⟩
  simp only[Z8,seval,h]
  exact⟨_,xtmp rfl (by simp only[E8,seval,h]<;>rfl) (by first | exact .v _ | simp only[FLb,h]),_,rfl⟩
theorem x243 (ns:List Node) (hn:(ns.length:Int) < 1000000) (l:List Int) (hl:l.length=ns.length) (r:Root) (a:Int):∃ x,callL Tryz.prog 243 [.agg (cTree ⟨ns⟩),.sl l.length (csU64 l),.agg (cRoot r),.v (.int .u64 a)]=some x∧∃ m:List Int,x=.uniq 23 1 m.length (csU64 m)∧m.length=ns.length:=by
 have hl':(l.length:Int) < 1000000:=by omega
 have rr:=findR_range ns r
 rw[cL Tryz.func243 rfl ok243 rfl]
 by_cases g1:0≤findR ns r
 case neg =>
  simp only[Z8,seval,anoU64s _ hl',k46 _ _ hn,g1]
  exact⟨_,xrow rfl (by simp only[E8,seval]<;>rfl) (by simp only[E8,seval]<;>rfl) (flat_csU64 _),l,rfl,hl⟩
 by_cases g2:(nd ns (findR ns r)).status=2
 ·simp only[Z8,seval,anoU64s _ hl',k46 _ _ hn,g1,rr,bt g2]
  exact⟨_,xrow rfl (by simp only[E8,seval]<;>rfl) (by simp only[E8,seval]<;>rfl) (flat_csU64 _),l,rfl,hl⟩
 by_cases g3:r=zRoot
 ·subst g3
  simp only[Z8,seval,anoU64s _ hl',k46 _ _ hn,g1,rr,bf g2]
  exact⟨_,xrow rfl (by simp only[E8,seval]<;>rfl) (by simp only[E8,seval]<;>rfl) (flat_csU64 _),l,rfl,hl⟩
 have q1:findR ns r < (l.length:Int):=by omega
 have q2:(findR ns r).toNat < l.length:=by omega
 have q3:(findR ns r).toNat+1≤l.length:=by omega
 have hy:=get_csU64 g1 q1
 have hup:∀ z:Int,upd (csU64 l) (findR ns r).toNat [.v (.int .u64 z)] ((findR ns r).toNat+1)=csU64 (l.set (findR ns r).toNat z):=fun z=>by
  have:=upsU64 l (findR ns r) z q2
  simpa using this
 have ld:=ldaU64 (T:=23) (n:=l.length) (k:=1) g1 q1 lk23 (by decide) (by decide)
 rw[Nat.mul_one] at ld
 simp only[Z8,seval,anoU64s _ hl',k46 ns r hn,g1,rr,bf g2,g3,q1,q2,q3,hy,hup,ld,Nat.mul_one]
 exact⟨_,xrow rfl (by simp only[E8,seval]<;>rfl) (by simp only[E8,seval]<;>rfl) (flat_csU64 _),_,by rw[List.length_set],by rw[List.length_set];exact hl⟩
theorem csRoot1 (r:Root):csRoot [r]=cRoot r:=by simp[csRoot]
theorem exFRoot1 (r:Root):expoF (some (.row 27 32 1 (cRoot r)))=some (.sl 1 (csRoot [r])):=by rw[← csRoot1];exact exFRoot 1 [r]
noncomputable def weiV (t:Votes) (B:Option (List Int)) (r:Root):Int:=if h:∃ a:Int,callL Tryz.prog 248 [.agg (cVotes t),ov csU64 B,ov csRoot (some [r])]=some (.v (.int .u64 a)) then Classical.choose h else 0
theorem k248o (t:Votes) (L:Option (List Vote)) (Q:Option (List Int)) (hL:t.latest=ov csVote L) (hQ:t.equiv=ov csInt Q) (nL:((ol L).length:Int) < 1000000) (nQ:((ol Q).length:Int) < 1000000)
 (B:Option (List Int)) (nB:((ol B).length:Int) < 1000000) (r:Root) (s g:Nat) (st:St) (d:Option Nat) (hh:st.heap s g=some (.row 27 32 1 (cRoot r))) :
 callFn (callL Tryz.prog) 248 [.agg (cVotes t),ov csU64 B,.own s g] st d=some { dst:=d,val:=.v (.int .u64 (weiV t B r))}:=by
 obtain⟨x,hx,a,rfl⟩:=x248 t L Q hL hQ nL nQ B nB (some [r]) (by simp[ol])
 have he:∃ a:Int,callL Tryz.prog 248 [.agg (cVotes t),ov csU64 B,ov csRoot (some [r])]=some (.v (.int .u64 a)):=⟨a,hx⟩
 have hf:Flat (.agg (cVotes t)):=(fl_Votes t).2 ⟨by rw[hL];exact flat_ovVote L,by rw[hQ];exact flat_ovInt Q⟩
 rw[show weiV t B r=Classical.choose he from dif_pos he]
 rw[callFn_Q,List.map_cons,List.map_cons,List.map_cons,List.map_nil,expo_id hf,expo_id (flat_ovU64 B),expo_ownF,hh,exFRoot1,optAll_some,optAll_some,optAll_some,optAll_nil]
 exact Q_int (Classical.choose_spec he)
theorem x241 (ns:List Node) (hn:(ns.length:Int) < 1000000) (h0:0 < ns.length) (t:Votes) (L:Option (List Vote)) (Q:Option (List Int)) (hL:t.latest=ov csVote L) (hQ:t.equiv=ov csInt Q) (nL:((ol L).length:Int) < 1000000) (nQ:((ol Q).length:Int) < 1000000)
 (B:Option (List Int)) (nB:((ol B).length:Int) < 1000000) :
 ∃ x,callL Tryz.prog 241 [.agg (cTree ⟨ns⟩),.agg (cVotes t),ov csU64 B]=some x∧∃ m:List Int,x=.uniq 23 1 m.length (csU64 m)∧m.length=ns.length:=by
 have kw:=fun r g=>k248o t L Q hL hQ nL nQ B nB r 33 g
 rw[cL Tryz.func241 rfl ok241 (by cases B<;>rfl)]
 simp only[Z8,seval]
 refine use_loopX (fun m st=>∃ k:Nat,(st.env 3=.ptr 3 0 0∧st.heap 3 0=some (.cells (cTree ⟨ns⟩))∧st.env 4=.ptr 4 0 0∧st.heap 4 0=some (.cells (cVotes t))∧st.env 2=ov csU64 B∧st.env 8=.v (.int .i64 k))∧((k=0∧st.env 7=.v (.slice none 0 0))∨∃ (l:List Int) (g:Nat),st.env 7=.own 38 g∧g < st.cnt 38∧st.heap 38 g=some (.row 23 1 l.length (csU64 l))∧l.length=k)∧k≤ns.length∧m=ns.length - k)
  (fun e st=>e=.exit 0∧∃ (l:List Int) (g:Nat),st.env 7=.own 38 g∧st.heap 38 g=some (.row 23 1 l.length (csU64 l))∧l.length=ns.length) ns.length ?step ?start ?rest
 case step =>
  rintro m st ⟨k,hI,h7,hk,hm⟩
  by_cases hlt:(k:Int) < ns.length
  ·have q0:(0:Int)≤k:=by omega
   have hw:IntKind.i64.wrap ((k:Int)+1)=((k+1:Nat):Int):=by rw[w64 _ (by omega) (by omega)];omega
   by_cases h1:(nd ns k).status=2
   ·rcases h7 with ⟨hk0,h7⟩ | ⟨l,g,h7,hg,hh7,hl⟩
    ·apply oN (ns.length - (k+1))
     ·simp only[Z8,seval,hI,h7,hlt,q0,bt h1,hw]
      rfl
     ·exact⟨k+1,by simp only[E8,seval,hI],.inr ⟨[0],st.cnt 38,by simp only[E8,seval]<;>rfl,by simp only[E8,seval]<;>omega,by simp only[E8,seval]<;>rfl,by simp;omega⟩,by omega,rfl⟩
    ·have nl:(l.length:Int) < 1000000:=by omega
     apply oN (ns.length - (k+1))
     ·simp only[Z8,seval,hI,h7,hh7,hlt,q0,bt h1,hw,aooU641 _ _ _ _ nl]
      rfl
     ·exact⟨k+1,by simp only[E8,seval,hI],.inr ⟨_,st.cnt 38,by simp only[E8,seval]<;>rfl,by simp only[E8,seval]<;>omega,by simp only[E8,seval]<;>rfl,by rw[List.length_append];simp;omega⟩,by omega,rfl⟩
   ·rcases h7 with ⟨hk0,h7⟩ | ⟨l,g,h7,hg,hh7,hl⟩
    ·apply oN (ns.length - (k+1))
     ·simp only[Z8,seval,hI,h7,hlt,q0,bf h1,kw (nd ns k).block.root,hw]
      rfl
     ·exact⟨k+1,by simp only[E8,seval,hI],.inr ⟨[_],st.cnt 38,by simp only[E8,seval]<;>rfl,by simp only[E8,seval]<;>omega,by simp only[E8,seval]<;>rfl,by simp;omega⟩,by omega,rfl⟩
    ·have nl:(l.length:Int) < 1000000:=by omega
     apply oN (ns.length - (k+1))
     ·simp only[Z8,seval,hI,h7,hh7,hlt,q0,bf h1,kw (nd ns k).block.root,hw,aooU641 _ _ _ _ nl]
      rfl
     ·exact⟨k+1,by simp only[E8,seval,hI],.inr ⟨_,st.cnt 38,by simp only[E8,seval]<;>rfl,by simp only[E8,seval]<;>omega,by simp only[E8,seval]<;>rfl,by rw[List.length_append];simp;omega⟩,by omega,rfl⟩
  ·have hkn:k=ns.length:=by omega
   rcases h7 with ⟨hk0,h7⟩ | ⟨l,g,h7,hg,hh7,hl⟩
   ·omega
   ·apply oT (.exit 0)
    ·simp only[Z8,seval,hI,hlt]
     rfl
    ·exact⟨rfl,l,g,by simp only[E8,seval,h7],by simp only[E8,seval,hh7],by omega⟩
 case start=>exact⟨0,by simp only[E8,seval]<;>rfl,.inl ⟨rfl,by simp only[E8,seval]⟩,by omega,by omega⟩
 case rest =>
  rintro e st ⟨rfl,l,g,h7,hh7,hl⟩
  simp only[Z8,seval,h7]
  exact⟨_,xrow rfl (by simp only[E8,seval,h7]<;>rfl) (by simp only[E8,seval,hh7]<;>rfl) (flat_csU64 _),l,rfl,hl⟩
theorem x242 (ns:List Node) (hu:UpOk ns) (hn:(ns.length:Int) < 1000000) (h0:0 < ns.length) (l:List Int) (hl:l.length=ns.length) :
 ∃ x,callL Tryz.prog 242 [.agg (cTree ⟨ns⟩),.sl l.length (csU64 l)]=some x∧∃ m:List Int,x=.uniq 23 1 m.length (csU64 m)∧m.length=ns.length:=by
 rw[cL Tryz.func242 rfl ok242 rfl]
 simp only[Z8,seval]
 refine use_loopX (fun m st=>∃ k:Nat,(st.env 2=.ptr 2 0 0∧st.heap 2 0=some (.cells (cTree ⟨ns⟩))∧st.env 1=.sl l.length (csU64 l)∧st.env 6=.v (.int .i64 k))∧((k=0∧st.env 5=.v (.slice none 0 0))∨∃ (l:List Int) (g:Nat),st.env 5=.own 38 g∧g < st.cnt 38∧st.heap 38 g=some (.row 23 1 l.length (csU64 l))∧l.length=k)∧k≤ns.length∧m=ns.length - k)
  (fun e st=>e=.exit 0∧∃ (l:List Int) (g:Nat),st.env 5=.own 38 g∧st.heap 38 g=some (.row 23 1 l.length (csU64 l))∧l.length=ns.length) ns.length ?step ?start ?rest
 case step =>
  rintro m st ⟨k,hI,h5,hk,hm⟩
  by_cases hlt:(k:Int) < ns.length
  ·have q0:(0:Int)≤k:=by omega
   have hw:IntKind.i64.wrap ((k:Int)+1)=((k+1:Nat):Int):=by rw[w64 _ (by omega) (by omega)];omega
   have kd:=k64 ns hu hn k (dsc_ne hu q0 hlt ns.length hlt)
   have hrg:=dsc_rng ns k
   have hdl:=dsc_len ns k ns.length
   obtain⟨D,hD⟩:∃ D,dsc ns k ns.length=D:=⟨_,rfl⟩
   rw[hD] at kd hrg hdl
   simp only[Z8,seval,hI,hlt,q0,kd]
   refine use_loopN (fun mm st'=>∃ (j:Nat) (a:Int),(st'.env 2=.ptr 2 0 0∧st'.heap 2 0=some (.cells (cTree ⟨ns⟩))∧st'.env 1=.sl l.length (csU64 l)∧st'.env 6=.v (.int .i64 k)∧st'.env 5=st.env 5∧st'.cnt 38=st.cnt 38∧(∀ g,st'.heap 38 g=st.heap 38 g)∧st'.env 7=.v (.int .u64 a)∧st'.env 8=.own 19 (st.cnt 19)∧st'.heap 19 (st.cnt 19)=some (.row 3 1 D.length (csInt D))∧st'.env 9=.v (.int .i64 j))∧j≤D.length∧mm=D.length - j)
    (fun e st'=>e=.exit 2∧∃ a:Int,(st'.env 2=.ptr 2 0 0∧st'.heap 2 0=some (.cells (cTree ⟨ns⟩))∧st'.env 1=.sl l.length (csU64 l)∧st'.env 6=.v (.int .i64 k)∧st'.env 5=st.env 5∧st'.cnt 38=st.cnt 38∧(∀ g,st'.heap 38 g=st.heap 38 g)∧st'.env 7=.v (.int .u64 a))) D.length ?step2 ?start2 ?rest2
   case step2 =>
    rintro mm st' ⟨j,a,hJ,hj,hmm⟩
    by_cases hjl:(j:Int) < D.length
    ·have p0:(0:Int)≤j:=by omega
     have hw2:IntKind.i64.wrap ((j:Int)+1)=((j+1:Nat):Int):=by rw[w64 _ (by omega) (by omega)];omega
     obtain⟨hjt,hje⟩:=it_get p0 hjl
     have hx:=hrg _ (List.getElem_mem hjt)
     rw[← hje] at hx
     have x0:=hx.1
     have x1:it D j < (l.length:Int):=by omega
     have gi:=get_csInt0 p0 hjl
     apply oN (D.length - (j+1))
     ·simp only[Z8,seval,hJ,hjl,p0,x0,x1,gi,hw2]
      rfl
     ·exact⟨j+1,IntKind.u64.wrap (a+gx (0:Int) l (it D j)),by simp only[E8,seval,hJ,implies_true,and_self],by omega,rfl⟩
    ·apply oT (.exit 2)
     ·simp only[Z8,seval,hJ,hjl]
      rfl
     ·exact⟨rfl,a,by simp only[E8,seval,hJ,implies_true,and_self]⟩
   case start2=>exact⟨0,0,by simp only[E8,seval,hI,implies_true,and_self]<;>rfl,by omega,by omega⟩
   case rest2 =>
    rintro e st' ⟨rfl,a,hJ⟩
    obtain⟨j2,j2',j1,j6,j5,jc,jh,j7⟩:=hJ
    rcases h5 with ⟨hk0,h5⟩ | ⟨l',g,h5,hg,hh5,hl'⟩
    ·rw[h5] at j5
     refine go_onX (st':=?s3) ?h3 (ns.length - (k+1)) (by omega) ?q3
     case h3 =>
      simp only[Z8,seval,j2,j2',j1,j6,j5,jc,j7,hw]
      rfl
     case q3=>exact⟨k+1,by simp only[E8,seval,j2,j2',j1],.inr ⟨[a],st.cnt 38,by simp only[E8,seval,jc]<;>rfl,by simp only[E8,seval,jc]<;>omega,by simp only[E8,seval,jc]<;>rfl,by simp;omega⟩,by omega,rfl⟩
    ·rw[h5] at j5
     have nl:(l'.length:Int) < 1000000:=by omega
     have jhh:=jh g
     rw[hh5] at jhh
     refine go_onX (st':=?s4) ?h4 (ns.length - (k+1)) (by omega) ?q4
     case h4 =>
      simp only[Z8,seval,j2,j2',j1,j6,j5,jc,jhh,j7,hw,aooU641 _ _ _ _ nl]
      rfl
     case q4=>exact⟨k+1,by simp only[E8,seval,j2,j2',j1],.inr ⟨l' ++ [a],st.cnt 38,by simp only[E8,seval,jc]<;>rfl,by simp only[E8,seval,jc]<;>omega,by simp only[E8,seval,jc]<;>rfl,by rw[List.length_append];simp;omega⟩,by omega,rfl⟩
  ·have hkn:k=ns.length:=by omega
   rcases h5 with ⟨hk0,h5⟩ | ⟨l,g,h5,hg,hh5,hl⟩
   ·omega
   ·apply oT (.exit 0)
    ·simp only[Z8,seval,hI,hlt]
     rfl
    ·exact⟨rfl,l,g,by simp only[E8,seval,h5],by simp only[E8,seval,hh5],by omega⟩
 case start=>exact⟨0,by simp only[E8,seval]<;>rfl,.inl ⟨rfl,by simp only[E8,seval]⟩,by omega,by omega⟩
 case rest =>
  rintro e st ⟨rfl,l,g,h5,hh5,hl⟩
  simp only[Z8,seval,h5]
  exact⟨_,xrow rfl (by simp only[E8,seval,h5]<;>rfl) (by simp only[E8,seval,hh5]<;>rfl) (flat_csU64 _),l,rfl,hl⟩
theorem x223 {s:Store} {v:SV} {q:Int} (h:GI s v q):∃ x,callL Tryz.prog 223 [.agg (cStore s)]=some x∧∃ m:List Int,x=.uniq 23 1 m.length (csU64 m)∧m.length=v.ns.length:=by
 have hf:=h.sd.flat
 have hn:=h.sd.nn
 obtain⟨r1,e1,o,rfl,ho⟩:=x239 h.sd
 have k239:=kx e1 (flat1 hf) (flat_ovU64 o)
 obtain⟨r2,e2,a,c,rfl,_⟩:=x175 o ho
 have k175:=kx e2 (flat1 (flat_ovU64 o)) (.tup _ (flat2 (.v _) (.v _)))
 have hcb:Flat s.cFg.bal:=h.sd.fl.1
 obtain⟨r3,e3,a3,c3,rfl⟩:=x240 s.cFg hcb a
 have k240:=kx e3 (flat2 ((fl_Config _).2 hcb) (.v _)) (.tup _ (flat2 (.v _) (.v _)))
 obtain⟨r4,e4,m1,rfl,hm1⟩:=x241 v.ns hn h.pos s.votes v.L v.Q h.sd.latest h.sd.equiv h.sd.nL h.sd.nQ o ho
 have hfv:Flat (.agg (cVotes s.votes)):=(fl_Votes _).2 ⟨h.sd.fl.2.1,h.sd.fl.2.2.1⟩
 have k241:∀ (st:St),callFn (callL Tryz.prog) 241 [.agg (cTree ⟨v.ns⟩),.agg (cVotes s.votes),ov csU64 o] st (some 28)=_:=fun st=>call_uniq (st:=st) (d:=28) (flat3 (flatT _) hfv (flat_ovU64 o)) e4
 obtain⟨r5,e5,m2,rfl,hm2⟩:=x243 v.ns hn m1 hm1 s.boost a3
 have k243:∀ (st:St) (g:Nat),st.heap 28 g=some (.row 23 1 m1.length (csU64 m1))→callFn (callL Tryz.prog) 243 [.agg (cTree ⟨v.ns⟩),.own 28 g,.agg (cRoot s.boost),.v (.int .u64 a3)] st (some 37)=some { dst:=some 37,val:=.own 37 (st.cnt 37),new:=some (37,[.row 23 1 m2.length (csU64 m2)])}:=by
  intro st g hh
  rw[callFn_Q,List.map_cons,List.map_cons,List.map_cons,List.map_cons,List.map_nil,expo_tree,expo_ownF,hh,exFU64,expo_root,expo_v,optAll_some,optAll_some,optAll_some,optAll_some,optAll_nil]
  exact Q_uniq e5 (mem_csU64 m2)
 obtain⟨r6,e6,m3,rfl,hm3⟩:=x242 v.ns h.up hn h.pos m2 hm2
 have k242:∀ (st:St) (g:Nat),st.heap 37 g=some (.row 23 1 m2.length (csU64 m2))→callFn (callL Tryz.prog) 242 [.agg (cTree ⟨v.ns⟩),.own 37 g] st (some 38)=some { dst:=some 38,val:=.own 38 (st.cnt 38),new:=some (38,[.row 23 1 m3.length (csU64 m3)])}:=by
  intro st g hh
  rw[callFn_Q,List.map_cons,List.map_cons,List.map_nil,expo_tree,expo_ownF,hh,exFU64,optAll_some,optAll_some,optAll_nil]
  exact Q_uniq e6 (mem_csU64 m3)
 rw[cL Tryz.func223 rfl ok223 rfl]
 simp only[Z8,seval,k239,k175,extA,k240,h.sd.tree,k241,k243,k242]
 exact⟨_,xrow rfl (by simp only[E8,seval]<;>rfl) (by simp only[E8,seval]<;>rfl) (flat_csU64 _),m3,rfl,hm3⟩
end Go.Ab.Tryz
