/-
  Part 13 of the proof: an evaluator of programs, its soundness, and what functions of this program compute.
-/
import Derived.Test.YtmcjkemalibacaaGreatK12
import Derived.Test.YtmcjkemalibacaaGreatK9
import Derived.Test.YtmcjkemalibacaaGreatK11
set_option linter.all false
set_option maxRecDepth 20000
set_option maxHeartbeats 40000000
namespace Go.Ab.Tryz
open Classical Go.Proofs Go.Ab
noncomputable def srcV (s:Store) (v:SV) (i:Int):Ckpt:=if 0≤i∧i < v.ns.length then (if epV s (nd v.ns i).block.slot < epV s s.now then (nd v.ns i).block.pulled.pj else (nd v.ns i).block.just) else zCkpt
theorem c252 {s:Store} {v:SV} (hs:SD s v) (hp:s.cFg.spe≠0) (i:Int):callL Tryz.prog 252 [.agg (cStore s),.v (.int .i64 i)]=some (.agg (cCkpt (srcV s v i))):=by
 have hf:=hs.flat
 rw[cL Tryz.func252 rfl ok252 rfl]
 refine ex_eq ?_
 by_cases g1:0≤i
 case neg =>
  have hv:srcV s v i=zCkpt:=if_neg (fun h=>g1 h.1)
  simp only[Z8,seval,k251 hs,g1,Bool.false_and]
  exact⟨_,xcell rfl (by simp only[E8,seval]<;>rfl) (by simp only[Z8,seval]<;>rfl) (by simp only[FLb,and_self]),by rw[hv]⟩
 by_cases g2:i < (v.ns.length:Int)
 case neg =>
  have hv:srcV s v i=zCkpt:=if_neg (fun h=>g2 h.2)
  simp only[Z8,seval,k251 hs,g1,g2,Bool.and_false]
  exact⟨_,xcell rfl (by simp only[E8,seval]<;>rfl) (by simp only[Z8,seval]<;>rfl) (by simp only[FLb,and_self]),by rw[hv]⟩
 by_cases g3:epV s (nd v.ns i).block.slot < epV s s.now
 ·have hv:srcV s v i=(nd v.ns i).block.pulled.pj:=by unfold srcV;rw[if_pos ⟨g1,g2⟩,if_pos g3]
  simp only[Z8,seval,k251 hs,g1,g2,hs.tree,k98 s hp hf,g3]
  exact⟨_,xcell rfl (by simp only[E8,seval]<;>rfl) (by simp only[Z8,seval]<;>rfl) (by simp only[FLb,and_self]),by rw[hv]⟩
 ·have hv:srcV s v i=(nd v.ns i).block.just:=by unfold srcV;rw[if_pos ⟨g1,g2⟩,if_neg g3]
  simp only[Z8,seval,k251 hs,g1,g2,hs.tree,k98 s hp hf,g3]
  exact⟨_,xcell rfl (by simp only[E8,seval]<;>rfl) (by simp only[Z8,seval]<;>rfl) (by simp only[FLb,and_self]),by rw[hv]⟩
theorem k252 {s:Store} {v:SV} (hs:SD s v) (hp:s.cFg.spe≠0) (i:Int) (st:St) (d:Option Nat):callFn (callL Tryz.prog) 252 [.agg (cStore s),.v (.int .i64 i)] st d=some { dst:=d,val:=.agg (cCkpt (srcV s v i))}:=call_flat (flat2 hs.flat (.v _)) (c252 hs hp i) (.agg _ (flat_cCkpt _))
theorem x249 {s:Store} {v:SV} (hs:SD s v) (hp:s.cFg.spe≠0) (i:Int):∃ r,callL Tryz.prog 249 [.agg (cStore s),.v (.int .i64 i)]=some r∧∃ b:Bool,r=.v (.bool b):=by
 have hf:=hs.flat
 rw[cL Tryz.func249 rfl ok249 rfl]
 by_cases g1:0≤i
 case neg =>
  simp only[Z8,seval,k251 hs,g1,Bool.false_and]
  exact⟨_,xtmp rfl (by simp only[E8,seval]<;>rfl) (by first | exact .v _ | simp only[FLb]),_,rfl⟩
 by_cases g2:i < (v.ns.length:Int)
 case neg =>
  simp only[Z8,seval,k251 hs,g1,g2,Bool.and_false]
  exact⟨_,xtmp rfl (by simp only[E8,seval]<;>rfl) (by first | exact .v _ | simp only[FLb]),_,rfl⟩
 by_cases g3:(nd v.ns i).status=2
 ·simp only[Z8,seval,k251 hs,g1,g2,hs.tree,bt g3]
  exact⟨_,xtmp rfl (by simp only[E8,seval]<;>rfl) (by first | exact .v _ | simp only[FLb]),_,rfl⟩
 by_cases g4:s.finality.just.epoch=0
 ·simp only[Z8,seval,k251 hs,g1,g2,hs.tree,bf g3,k252 hs hp,bt g4]
  exact⟨_,xtmp rfl (by simp only[E8,seval]<;>rfl) (by first | exact .v _ | simp only[FLb]),_,rfl⟩
 by_cases g5:(srcV s v i).epoch=s.finality.just.epoch
 ·simp only[Z8,seval,k251 hs,g1,g2,hs.tree,bf g3,k252 hs hp,bf g4,bt g5]
  exact⟨_,xtmp rfl (by simp only[E8,seval]<;>rfl) (by first | exact .v _ | simp only[FLb]),_,rfl⟩
 by_cases g6:epV s s.now≤(srcV s v i).epoch
 ·simp only[Z8,seval,k251 hs,g1,g2,hs.tree,bf g3,k252 hs hp,bf g4,bf g5,k98 s hp hf,g6]
  exact⟨_,xtmp rfl (by simp only[E8,seval]<;>rfl) (by first | exact .v _ | simp only[FLb]),_,rfl⟩
 ·simp only[Z8,seval,k251 hs,g1,g2,hs.tree,bf g3,k252 hs hp,bf g4,bf g5,k98 s hp hf,g6]
  exact⟨_,xtmp rfl (by simp only[E8,seval]<;>rfl) (by first | exact .v _ | simp only[FLb]),_,rfl⟩
theorem chl_up (ns:List Node) (i x:Int):∀ k:Nat,x∈chl ns i k→(0≤x∧x < k)∧(nd ns x).up=i:=by
 intro k
 induction k with
 | zero=>intro h;simp[chl] at h
 | succ k ih =>
   intro h
   unfold chl at h
   split at h
   ·rename_i hc
    rcases List.mem_append.1 h with h | h
    ·have:=ih h;omega
    ·have hx:=List.mem_singleton.1 h
     subst hx
     exact⟨by omega,hc⟩
   ·have:=ih h;omega
theorem chlV_gt {ns:List Node} (hu:UpOk ns) (hr:(nd ns 0).up=-1) {i x:Int} (h:x∈chlV ns i):i < x∧0≤x∧x < ns.length:=by
 unfold chlV at h
 split at h
 ·simp at h
 ·rename_i hi
  obtain⟨⟨x0,x1⟩,hup⟩:=chl_up ns i x _ h
  by_cases hx:x=0
  ·subst hx;rw[hr] at hup;omega
  ·have:=(hu x (by omega) x1).2;omega
theorem x244 {s:Store} {v:SV} (hs:SD s v) (hu:UpOk v.ns) (hr:(nd v.ns 0).up=-1) (hp:s.cFg.spe≠0):∀ (n:Nat) (i:Int),((v.ns.length:Int) - i).toNat≤n→∃ b:Bool,callL Tryz.prog 244 [.agg (cStore s),.v (.int .i64 i)]=some (.v (.bool b)):=by
 have base:∀ (i:Int),chlV v.ns i=[]→∃ b:Bool,callL Tryz.prog 244 [.agg (cStore s),.v (.int .i64 i)]=some (.v (.bool b)):=by
  intro i hc
  obtain⟨r,hr9,b,rfl⟩:=x249 hs hp i
  have k249:=kx hr9 (flat2 hs.flat (.v _)) (.v _)
  have kc:=fun st d=>k245n v.ns hu hr hs.nn i hc st d
  suffices h:∃ r,callL Tryz.prog 244 [.agg (cStore s),.v (.int .i64 i)]=some r∧∃ b:Bool,r=.v (.bool b) by
   obtain⟨r,h,b,rfl⟩:=h;exact⟨b,h⟩
  rw[cL Tryz.func244 rfl ok244 rfl]
  cases b
  ·simp only[Z8,seval,k249,hs.tree,kc]
   refine use_loopX (fun m st=>st.env 5=.v (.slice none 0 0)∧st.env 6=.v (.int .i64 0)∧m=0) (fun e st=>e=.exit 0) 0 ?step ?start ?rest
   case step =>
    rintro m st ⟨h5,h6,_⟩
    apply oT (.exit 0)
    ·simp only[Z8,seval,h5,h6,Int.lt_irrefl]
     rfl
    ·exact rfl
   case start=>exact⟨by simp only[E8,seval]<;>rfl,by simp only[E8,seval]<;>rfl,rfl⟩
   case rest =>
    rintro e st rfl
    simp only[Z8,seval]
    exact⟨_,xtmp rfl (by simp only[E8,seval]<;>rfl) (by first | exact .v _ | simp only[FLb]),_,rfl⟩
  ·simp only[Z8,seval,k249]
   exact⟨_,xtmp rfl (by simp only[E8,seval]<;>rfl) (by first | exact .v _ | simp only[FLb]),_,rfl⟩
 intro n
 induction n with
 | zero =>
   intro i hi
   exact base i (chlV_big hu hr (by omega))
 | succ n ih =>
   intro i hi
   by_cases hc:chlV v.ns i=[]
   ·exact base i hc
   obtain⟨r,hr9,b,rfl⟩:=x249 hs hp i
   have k249:=kx hr9 (flat2 hs.flat (.v _)) (.v _)
   have kc:=fun st d=>k245 v.ns hu hr hs.nn i hc st d
   have hB:∀ x:Int,∃ b:Bool,x∈chlV v.ns i→callL Tryz.prog 244 [.agg (cStore s),.v (.int .i64 x)]=some (.v (.bool b)):=by
    intro x
    by_cases hx:x∈chlV v.ns i
    ·have:=chlV_gt hu hr hx
     obtain⟨b,hb⟩:=ih x (by omega)
     exact⟨b,fun _=>hb⟩
    ·exact⟨false,fun h=>absurd h hx⟩
   obtain⟨B,hB⟩:∃ B:Int→Bool,∀ x,x∈chlV v.ns i→callL Tryz.prog 244 [.agg (cStore s),.v (.int .i64 x)]=some (.v (.bool (B x))):=⟨fun x=>Classical.choose (hB x),fun x=>Classical.choose_spec (hB x)⟩
   have hgt:∀ x∈chlV v.ns i,i < x∧0≤x∧x < v.ns.length:=fun x hx=>chlV_gt hu hr hx
   have hin:((chlV v.ns i).length:Int) < 1000000:=by
    have h1:(chlV v.ns i).length≤v.ns.length:=by
     unfold chlV
     split
     ·simp
     ·exact chl_len v.ns i v.ns.length
    have:=hs.nn;omega
   obtain⟨l,el⟩:∃ l,chlV v.ns i=l:=⟨_,rfl⟩
   rw[el] at kc hB hin
   suffices h:∃ r,callL Tryz.prog 244 [.agg (cStore s),.v (.int .i64 i)]=some r∧∃ b:Bool,r=.v (.bool b) by
    obtain⟨r,h,b,rfl⟩:=h;exact⟨b,h⟩
   rw[cL Tryz.func244 rfl ok244 rfl]
   cases b
   case true =>
    simp only[Z8,seval,k249]
    exact⟨_,xtmp rfl (by simp only[E8,seval]<;>rfl) (by first | exact .v _ | simp only[FLb]),_,rfl⟩
   simp only[Z8,seval,k249,hs.tree,kc]
   refine use_loopX (fun m st=>∃ k:Nat,(st.env 2=.ptr 2 0 0∧st.heap 2 0=some (.cells (cStore s))∧st.env 5=.own 13 0∧st.heap 13 0=some (.row 3 1 l.length (csInt l))∧st.env 6=.v (.int .i64 k))∧(∀ j:Nat,j < k→¬ (B (it l (j:Int))=true))∧k≤l.length∧m=l.length - k)
    (fun e st=>(e=.ret∧∃ k:Nat,k < l.length∧(B (it l (k:Int))=true)∧(∀ j:Nat,j < k→¬ (B (it l (j:Int))=true))∧st.env 4=.v (.bool true))∨(e=.exit 0∧(∀ j:Nat,j < l.length→¬ (B (it l (j:Int))=true))∧st.env 2=.ptr 2 0 0∧st.heap 2 0=some (.cells (cStore s))∧st.env 5=.own 13 0∧st.heap 13 0=some (.row 3 1 l.length (csInt l)))) (l.length) ?step ?start ?rest
   case step =>
    rintro m st ⟨k,hI,hj,hk,hm⟩
    by_cases hlt:(k:Int) < l.length
    ·have q0:(0:Int)≤k:=by omega
     have hw:IntKind.i64.wrap ((k:Int)+1)=((k+1:Nat):Int):=by rw[w64 _ (by omega) (by omega)];omega
     have gi:=get_csInt0 q0 hlt
     have hm2:it l (k:Int)∈l:=by obtain⟨h1,h2⟩:=it_get q0 hlt;rw[h2];exact List.getElem_mem h1
     have kb:=kx (hB _ hm2) (flat2 hs.flat (.v _)) (.v _)
     by_cases hh:B (it l (k:Int))=true
     ·apply oT (.ret)
      ·simp only[Z8,seval,hI,hlt,q0,kb,gi,hh]
       rfl
      ·exact .inl ⟨rfl,k,by omega,hh,hj,by simp only[E8,seval,kb,gi]⟩
     ·have hn:B (it l (k:Int))=false:=by simpa using hh
      apply oN (l.length - (k+1))
      ·simp only[Z8,seval,hI,hlt,q0,kb,gi,hn,hw]
       rfl
      ·exact⟨k+1,by simp only[E8,seval,hI],fun j h=>(Nat.lt_succ_iff_lt_or_eq.1 h).elim (hj j) fun e=>by subst e;exact hh,by omega,rfl⟩
    ·apply oT (.exit 0)
     ·simp only[Z8,seval,hI,hlt,hlt]
      rfl
     ·exact .inr ⟨rfl,fun j h=>hj j (by omega),by simp only[E8,seval,hI]⟩
   case start=>exact⟨0,by simp only[E8,seval]<;>rfl,fun j h=>by omega,by omega,by omega⟩
   case rest =>
    rintro e st (⟨rfl,k,hk,hh,hj,h⟩ | ⟨rfl,hj,hI⟩)
    ·simp only[Z8,seval]
     exact⟨_,xtmp rfl (by simp only[E8,seval,h]<;>rfl) (by first | exact .v _ | simp only[FLb,h]),_,rfl⟩
    ·simp only[Z8,seval]
     exact⟨_,xtmp rfl (by simp only[E8,seval]<;>rfl) (by first | exact .v _ | simp only[FLb]),_,rfl⟩
theorem x224 {s:Store} {v:SV} {q:Int} (h:GI s v q):∃ x,callL Tryz.prog 224 [.agg (cStore s)]=some x∧∃ m:List Bool,x=.uniq 4 1 m.length (csBool m)∧m.length=v.ns.length:=by
 have hn:=h.sd.nn
 have h0:=h.pos
 obtain⟨B,hB⟩:∃ B:Int→Bool,∀ x,callL Tryz.prog 244 [.agg (cStore s),.v (.int .i64 x)]=some (.v (.bool (B x))):=⟨fun x=>Classical.choose (x244 h.sd h.up h.up0 h.sp _ x (Nat.le_refl _)),fun x=>Classical.choose_spec (x244 h.sd h.up h.up0 h.sp _ x (Nat.le_refl _))⟩
 have kb:∀ (x:Int) (st:St) (d:Option Nat),callFn (callL Tryz.prog) 244 [.agg (cStore s),.v (.int .i64 x)] st d=some { dst:=d,val:=.v (.bool (B x))}:=fun x=>kx (hB x) (flat2 h.sd.flat (.v _)) (.v _)
 rw[cL Tryz.func224 rfl ok224 rfl]
 simp only[Z8,seval]
 refine use_loopX (fun m st=>∃ k:Nat,(st.env 1=.ptr 1 0 0∧st.heap 1 0=some (.cells (cStore s))∧st.env 4=.v (.int .i64 k))∧((k=0∧st.env 3=.v (.slice none 0 0))∨∃ (l:List Bool) (g:Nat),st.env 3=.own 18 g∧g < st.cnt 18∧st.heap 18 g=some (.row 4 1 l.length (csBool l))∧l.length=k)∧k≤v.ns.length∧m=v.ns.length - k)
  (fun e st=>e=.exit 0∧∃ (l:List Bool) (g:Nat),st.env 3=.own 18 g∧st.heap 18 g=some (.row 4 1 l.length (csBool l))∧l.length=v.ns.length) v.ns.length ?step ?start ?rest
 case step =>
  rintro m st ⟨k,hI,h5,hk,hm⟩
  by_cases hlt:(k:Int) < v.ns.length
  ·have q0:(0:Int)≤k:=by omega
   have hw:IntKind.i64.wrap ((k:Int)+1)=((k+1:Nat):Int):=by rw[w64 _ (by omega) (by omega)];omega
   rcases h5 with ⟨hk0,h5⟩ | ⟨l',g,h5,hg,hh5,hl'⟩
   ·apply oN (v.ns.length - (k+1))
    ·simp only[Z8,seval,hI,h5,hlt,q0,h.sd.tree,kb,hw]
     rfl
    ·exact⟨k+1,by simp only[E8,seval,hI],.inr ⟨[B k],st.cnt 18,by simp only[E8,seval]<;>rfl,by simp only[E8,seval]<;>omega,by simp only[E8,seval]<;>rfl,by simp;omega⟩,by omega,rfl⟩
   ·have nl:(l'.length:Int) < 1000000:=by omega
    apply oN (v.ns.length - (k+1))
    ·simp only[Z8,seval,hI,h5,hh5,hlt,q0,h.sd.tree,kb,hw,aooBool1 _ _ _ _ nl]
     rfl
    ·exact⟨k+1,by simp only[E8,seval,hI],.inr ⟨l' ++ [B k],st.cnt 18,by simp only[E8,seval]<;>rfl,by simp only[E8,seval]<;>omega,by simp only[E8,seval]<;>rfl,by rw[List.length_append];simp;omega⟩,by omega,rfl⟩
  ·have hkn:k=v.ns.length:=by omega
   rcases h5 with ⟨hk0,h5⟩ | ⟨l,g,h5,hg,hh5,hl⟩
   ·omega
   ·apply oT (.exit 0)
    ·simp only[Z8,seval,hI,hlt,h.sd.tree]
     rfl
    ·exact⟨rfl,l,g,by simp only[E8,seval,h5],by simp only[E8,seval,hh5],by omega⟩
 case start=>exact⟨0,by simp only[E8,seval]<;>rfl,.inl ⟨rfl,by simp only[E8,seval]⟩,by omega,by omega⟩
 case rest =>
  rintro e st ⟨rfl,l,g,h5,hh5,hl⟩
  simp only[Z8,seval,h5]
  exact⟨_,xrow rfl (by simp only[E8,seval,h5]<;>rfl) (by simp only[E8,seval,hh5]<;>rfl) (flat_csBool _),l,rfl,hl⟩
theorem flat_keys {x:AV} (h:Flat x):ownKeys1 x=[]:=by
 have one:∀ c,Flat c→ownKey c=[]:=fun c hc=>by cases hc<;>rfl
 cases h with
 | agg cs h =>
   simp only[ownKeys1]
   rw[List.flatMap_eq_nil_iff]
   exact fun c hc=>one c (h c hc)
 | _=>rfl
theorem flats_keys {args:List AV} (h:∀ x∈args,Flat x):args.flatMap ownKeys1=[]:=List.flatMap_eq_nil_iff.2 fun x hx=>flat_keys (h x hx)
theorem eat_flat {call:Nat→List AV→Option AV} {g:Nat} {args:List AV} {st:St} {d:Option Nat} (h:∀ x∈args,Flat x):callEat call g args st d=callFn call g args st d:=by
 unfold callEat
 rw[flats_keys h]
theorem eat_call {call:Nat→List AV→Option AV} {g:Nat} {args:List AV} {r:AV} {st:St} {d:Option Nat} (hf:∀ x∈args,Flat x) (h:call g args=some r) (hr:Flat r):callEat call g args st d=some { dst:=d,val:=r }:=by
 rw[eat_flat hf]
 exact call_flat hf h hr
noncomputable def callEQ (call:Nat→List AV→Option AV) (g:Nat) (xs:Option (List AV)) (s k:Nat) (st:St) (d:Option Nat):Option Eff :=
 bnd xs fun xs=>bnd (call g xs) fun r=>eatRes r st d s k
theorem eat_one {call:Nat→List AV→Option AV} {g:Nat} {args:List AV} {st:St} {d:Option Nat} {s k:Nat} (hk:args.flatMap ownKeys1=[(s,k)]) (he:∀ x∈args,EatOk x):callEat call g args st d=callEQ call g (optAll (args.map (expo st))) s k st d:=by
 unfold callEat callEQ
 rw[hk]
 simp only
 rw[if_pos he]
 cases optAll (args.map (expo st))<;>rfl
theorem EQ_of {call:Nat→List AV→Option AV} {g:Nat} {xs:List AV} {r:AV} {s k:Nat} {st:St} {d:Option Nat} (h:call g xs=some r) (hr:Flat r):callEQ call g (some xs) s k st d=some { dst:=d,val:=r,upd:=some (s,k,none)}:=by
 unfold callEQ eatRes
 simp only[bnd_some,h,if_pos hr]
theorem EQ_uniq {call:Nat→List AV→Option AV} {g:Nat} {xs:List AV} {e sz n:Nat} {cs:List AV} {s k:Nat} {st:St} {d:Nat} (h:call g xs=some (.uniq e sz n cs)) (hm:∀ c∈cs,MemFree c):callEQ call g (some xs) s k st (some d)=some { dst:=some d,val:=.own d (st.cnt d),upd:=some (s,k,none),new:=some (d,[.row e sz n cs])}:=by
 have hnf:¬ Flat (.uniq e sz n cs):=by intro h;cases h
 unfold callEQ eatRes
 simp only[bnd_some,h,if_neg hnf,if_pos hm]
theorem eat_uniq {call:Nat→List AV→Option AV} {g:Nat} {args:List AV} {e sz n:Nat} {cs:List AV} {st:St} {d:Nat} (hf:∀ x∈args,Flat x) (h:call g args=some (.uniq e sz n cs)):callEat call g args st (some d)=some { dst:=some d,val:=.own d (st.cnt d),new:=some (d,[.row e sz n cs])}:=by
 have hnf:¬ Flat (.uniq e sz n cs):=by intro h;cases h
 rw[eat_flat hf]
 unfold callFn
 rw[if_pos hf,h]
 simp only[bnd_some]
 unfold putRes
 rw[if_neg hnf]
 rfl
theorem expo_ownI {st:St} {a g:Nat} {L:List Int} (hh:st.heap a g=some (.row 3 1 L.length (csInt L))):expo st (.own a g)=some (ov csInt (some L)):=by
 rw[expo_ownF,hh];exact exFInt L.length L
theorem e235 (o:Option (List Int)) (hn:((ol o).length:Int) < 999999) (x:Int) :
 ((∀ (st:St) (d:Nat),callEat (callL Tryz.prog) 235 [ov csInt o,.v (.int .i64 x)] st (some d)=some { dst:=some d,val:=ov csInt o }) ∧
  ∀ (st:St) (d a g:Nat) (L:List Int),o=some L→st.heap a g=some (.row 3 1 L.length (csInt L))→callEat (callL Tryz.prog) 235 [.own a g,.v (.int .i64 x)] st (some d)=some { dst:=some d,val:=ov csInt (some L),upd:=some (a,g,none)}) ∨
 ∃ M:List Int,M.length=(ol o).length+1∧(∀ (st:St) (d:Nat),callEat (callL Tryz.prog) 235 [ov csInt o,.v (.int .i64 x)] st (some d)=some { dst:=some d,val:=.own d (st.cnt d),new:=some (d,[.row 3 1 M.length (csInt M)])}) ∧
   ∀ (st:St) (d a g:Nat) (L:List Int),o=some L→st.heap a g=some (.row 3 1 L.length (csInt L))→callEat (callL Tryz.prog) 235 [.own a g,.v (.int .i64 x)] st (some d)=some { dst:=some d,val:=.own d (st.cnt d),upd:=some (a,g,none),new:=some (d,[.row 3 1 M.length (csInt M)])}:=by
 have one:∀ (st:St) (d a g:Nat) (L:List Int),o=some L→st.heap a g=some (.row 3 1 L.length (csInt L))→callEat (callL Tryz.prog) 235 [.own a g,.v (.int .i64 x)] st (some d)=callEQ (callL Tryz.prog) 235 (some [ov csInt o,.v (.int .i64 x)]) a g st (some d):=by
  rintro st d a g L rfl hh
  rw[eat_one (s:=a) (k:=g) rfl (by intro y hy;simp only[List.mem_cons,List.not_mem_nil,or_false] at hy;rcases hy with rfl | rfl;exact .inr (.inl ⟨a,g,rfl⟩);exact .inl (.v _)),
   List.map_cons,List.map_cons,List.map_nil,expo_ownI hh,expo_v,optAll_some,optAll_some,optAll_nil]
  rfl
 obtain⟨r,hr,h⟩:=x235 o hn x
 rcases h with rfl | ⟨M,rfl,hM⟩
 ·refine .inl ⟨fun st d=>eat_call (flat2 (flat_ovInt o) (.v _)) hr (flat_ovInt o),fun st d a g L ho hh=>?_⟩
  rw[one st d a g L ho hh]
  subst ho
  exact EQ_of hr (flat_ovInt _)
 ·refine .inr ⟨M,hM,fun st d=>eat_uniq (flat2 (flat_ovInt o) (.v _)) hr,fun st d a g L ho hh=>?_⟩
  rw[one st d a g L ho hh]
  exact EQ_uniq hr (mem_csInt M)
theorem x221 (x:Slashing) (V W:Option (List Int)) (hV:x.first.vals=ov csInt V) (hW:x.second.vals=ov csInt W) (nV:((ol V).length:Int) < 99999) (nW:((ol W).length:Int) < 99999) :
 ∃ r,callL Tryz.prog 221 [.agg (cSlashing x)]=some r∧∃ o:Option (List Int),((ol o).length:Int)≤(ol V).length∧(r=ov csInt o∨∃ L,o=some L∧r=.uniq 3 1 L.length (csInt L)):=by
 have f1:Flat x.first.vals:=by rw[hV];exact flat_ovInt V
 have f2:Flat x.second.vals:=by rw[hW];exact flat_ovInt W
 rw[cL Tryz.func221 rfl ok221 rfl]
 simp only[Z8,seval]
 refine use_loopX (fun m st=>∃ k:Nat,(st.env 1=.ptr 1 0 0∧st.heap 1 0=some (.cells (cSlashing x))∧st.env 4=.v (.int .i64 k))∧(∃ o:Option (List Int),(ol o).length≤k∧(st.env 3=ov csInt o∨∃ g L,o=some L∧st.env 3=.own 30 g∧g < st.cnt 30∧st.heap 30 g=some (.row 3 1 L.length (csInt L))))∧k≤(ol V).length∧m=(ol V).length - k)
  (fun e st=>e=.exit 0∧∃ o:Option (List Int),(ol o).length≤(ol V).length∧(st.env 3=ov csInt o∨∃ g L,o=some L∧st.env 3=.own 30 g∧st.heap 30 g=some (.row 3 1 L.length (csInt L)))) (ol V).length ?step ?start ?rest
 case step =>
  rintro m st ⟨k,hI,⟨o,ho,h3⟩,hk,hm⟩
  by_cases hlt:(k:Int) < (ol V).length
  ·have q0:(0:Int)≤k:=by omega
   have hw:IntKind.i64.wrap ((k:Int)+1)=((k+1:Nat):Int):=by rw[w64 _ (by omega) (by omega)];omega
   have k49':=k49o W (by omega) (gx (0:Int) (ol V) (k:Int))
   by_cases h1:gx (0:Int) (ol V) (k:Int)∈ol W
   ·have h1':=eq_true h1
    rcases e235 o (by omega) (gx (0:Int) (ol V) (k:Int)) with ⟨ea,eb⟩ | ⟨M,hM,ea,eb⟩
    ·rcases h3 with h3 | ⟨g,L,hL,h3,hg,hh⟩
     ·apply oN ((ol V).length - (k+1))
      ·simp only[Z8,seval,hI,h3,hlt,q0,hV,hW,k49',h1',ea,hw]
       rfl
      ·exact⟨k+1,by simp only[E8,seval,hI],⟨o,by omega,.inl (by simp only[E8,seval])⟩,by omega,rfl⟩
     ·have eb':=fun st d a g=>eb st d a g L hL
      have ho':(ol (some L)).length≤k:=by rw[← hL];exact ho
      apply oN ((ol V).length - (k+1))
      ·simp only[Z8,seval,hI,h3,hh,hlt,q0,hV,hW,k49',h1',eb',hw]
       rfl
      ·exact⟨k+1,by simp only[E8,seval,hI],⟨some L,by omega,.inl (by simp only[E8,seval])⟩,by omega,rfl⟩
    ·rcases h3 with h3 | ⟨g,L,hL,h3,hg,hh⟩
     ·apply oN ((ol V).length - (k+1))
      ·simp only[Z8,seval,hI,h3,hlt,q0,hV,hW,k49',h1',ea,hw]
       rfl
      ·exact⟨k+1,by simp only[E8,seval,hI],⟨some M,by show M.length≤_;omega,.inr ⟨_,M,rfl,by simp only[E8,seval]<;>rfl,by simp only[E8,seval]<;>omega,by simp only[E8,seval]<;>rfl⟩⟩,by omega,rfl⟩
     ·have eb':=fun st d a g=>eb st d a g L hL
      have hgn:(g=st.cnt 30)=False:=eq_false (by omega)
      apply oN ((ol V).length - (k+1))
      ·simp only[Z8,seval,hI,h3,hh,hgn,hlt,q0,hV,hW,k49',h1',eb',hw]
       rfl
      ·exact⟨k+1,by simp only[E8,seval,hI],⟨some M,by show M.length≤_;omega,.inr ⟨_,M,rfl,by simp only[E8,seval]<;>rfl,by simp only[E8,seval]<;>omega,by simp only[E8,seval]<;>rfl⟩⟩,by omega,rfl⟩
   ·have h1':=eq_false h1
    have h3':st.env 3=ov csInt o∨∃ g L,o=some L∧st.env 3=.own 30 g∧g < st.cnt 30∧st.heap 30 g=some (.row 3 1 L.length (csInt L)):=h3
    apply oN ((ol V).length - (k+1))
    ·simp only[Z8,seval,hI,hlt,q0,hV,hW,k49',h1',hw]
     rfl
    ·exact⟨k+1,by simp only[E8,seval,hI],⟨o,by omega,by simpa only[E8,seval] using h3'⟩,by omega,rfl⟩
  ·have h3':st.env 3=ov csInt o∨∃ g L,o=some L∧st.env 3=.own 30 g∧st.heap 30 g=some (.row 3 1 L.length (csInt L)):=h3.imp id fun ⟨g,L,a,b,_,c⟩=>⟨g,L,a,b,c⟩
   apply oT (.exit 0)
   ·simp only[Z8,seval,hI,hlt,hV]
    rfl
   ·exact⟨rfl,o,by omega,by simpa only[E8,seval] using h3'⟩
 case start=>exact⟨0,by simp only[E8,seval]<;>rfl,⟨none,by simp[ol],.inl (by simp only[E8,seval]<;>rfl)⟩,by omega,by omega⟩
 case rest =>
  rintro e st ⟨rfl,o,ho,h3⟩
  rcases h3 with h3 | ⟨g,L,hL,h3,hh⟩
  ·simp only[Z8,seval,h3]
   exact⟨_,xtmp rfl (by simp only[E8,seval,h3]<;>rfl) (flat_ovInt o),o,by omega,.inl rfl⟩
  ·simp only[Z8,seval,h3]
   exact⟨_,xrow rfl (by simp only[E8,seval,h3]<;>rfl) (by simp only[E8,seval,hh]<;>rfl) (flat_csInt _),o,by omega,.inr ⟨L,hL,rfl⟩⟩
theorem pun0 {o:Option (List Int)} {L:List Int} (h:(ol o).length≤L.length):IntKind.i64.wrap ((L.length:Int) - ((ol o).length:Int))≠0→L≠[]:=by
 rintro hn rfl
 have h0:(ol o).length=0:=by simpa using h
 rw[h0] at hn
 exact hn (by decide)
theorem x220 (o V:Option (List Int)) (no:((ol o).length:Int) < 900000) (nV:((ol V).length:Int) < 99999) :
 ∃ r,callL Tryz.prog 220 [ov csInt o,ov csInt V]=some r∧∃ (L:List Int) (n:Int),r=.tup [ov csInt (some L),.v (.int .i64 n)]∧L.length≤(ol o).length+(ol V).length∧(n≠0→L≠[]):=by
 rw[cL Tryz.func220 rfl ok220 (by cases o<;>cases V<;>rfl)]
 have no':((ol o).length:Int) < 1000000:=by omega
 simp only[Z8,seval,anoInts _ no']
 refine use_loopX (fun m st=>∃ k:Nat,(st.env 0=ov csInt o∧st.env 1=ov csInt V∧st.env 7=.v (.int .i64 k))∧(∃ L:List Int,((ol o).length≤L.length∧L.length≤(ol o).length+k)∧(st.env 6=ov csInt (some L)∨(∃ g,st.env 6=.own 21 g∧g < st.cnt 21∧st.heap 21 g=some (.row 3 1 L.length (csInt L)))∨(st.env 6=.own 9 0∧st.heap 9 0=some (.row 3 1 L.length (csInt L)))))∧k≤(ol V).length∧m=(ol V).length - k)
  (fun e st=>e=.exit 0∧(st.env 0=ov csInt o)∧∃ L:List Int,((ol o).length≤L.length∧L.length≤(ol o).length+(ol V).length)∧(st.env 6=ov csInt (some L)∨∃ a g,st.env 6=.own a g∧st.heap a g=some (.row 3 1 L.length (csInt L)))) (ol V).length ?step ?start ?rest
 case step =>
  rintro m st ⟨k,hI,⟨L,hL,h3⟩,hk,hm⟩
  by_cases hlt:(k:Int) < (ol V).length
  ·have q0:(0:Int)≤k:=by omega
   have hw:IntKind.i64.wrap ((k:Int)+1)=((k+1:Nat):Int):=by rw[w64 _ (by omega) (by omega)];omega
   rcases e235 (some L) (by show (L.length:Int) < _;omega) (gx (0:Int) (ol V) (k:Int)) with ⟨ea,eb⟩ | ⟨M,hM,ea,eb⟩
   ·rcases h3 with h3 | ⟨g,h3,hg,hh⟩ | ⟨h3,hh⟩
    ·apply oN ((ol V).length - (k+1))
     ·simp only[Z8,seval,hI,h3,hlt,q0,ea,hw]
      rfl
     ·exact⟨k+1,by simp only[E8,seval,hI],⟨L,by omega,.inl (by simp only[E8,seval])⟩,by omega,rfl⟩
    ·have eb':=fun st d a g=>eb st d a g L rfl
     apply oN ((ol V).length - (k+1))
     ·simp only[Z8,seval,hI,h3,hh,hlt,q0,eb',hw]
      rfl
     ·exact⟨k+1,by simp only[E8,seval,hI],⟨L,by omega,.inl (by simp only[E8,seval])⟩,by omega,rfl⟩
    ·have eb':=fun st d a g=>eb st d a g L rfl
     apply oN ((ol V).length - (k+1))
     ·simp only[Z8,seval,hI,h3,hh,hlt,q0,eb',hw]
      rfl
     ·exact⟨k+1,by simp only[E8,seval,hI],⟨L,by omega,.inl (by simp only[E8,seval])⟩,by omega,rfl⟩
   ·have hM':M.length=L.length+1:=hM
    rcases h3 with h3 | ⟨g,h3,hg,hh⟩ | ⟨h3,hh⟩
    ·apply oN ((ol V).length - (k+1))
     ·simp only[Z8,seval,hI,h3,hlt,q0,ea,hw]
      rfl
     ·exact⟨k+1,by simp only[E8,seval,hI],⟨M,by omega,.inr (.inl ⟨_,by simp only[E8,seval]<;>rfl,by simp only[E8,seval]<;>omega,by simp only[E8,seval]<;>rfl⟩)⟩,by omega,rfl⟩
    ·have eb':=fun st d a g=>eb st d a g L rfl
     have hgn:(g=st.cnt 21)=False:=eq_false (by omega)
     apply oN ((ol V).length - (k+1))
     ·simp only[Z8,seval,hI,h3,hh,hgn,hlt,q0,eb',hw]
      rfl
     ·exact⟨k+1,by simp only[E8,seval,hI],⟨M,by omega,.inr (.inl ⟨_,by simp only[E8,seval]<;>rfl,by simp only[E8,seval]<;>omega,by simp only[E8,seval]<;>rfl⟩)⟩,by omega,rfl⟩
    ·have eb':=fun st d a g=>eb st d a g L rfl
     apply oN ((ol V).length - (k+1))
     ·simp only[Z8,seval,hI,h3,hh,hlt,q0,eb',hw]
      rfl
     ·exact⟨k+1,by simp only[E8,seval,hI],⟨M,by omega,.inr (.inl ⟨_,by simp only[E8,seval]<;>rfl,by simp only[E8,seval]<;>omega,by simp only[E8,seval]<;>rfl⟩)⟩,by omega,rfl⟩
  ·have h3':st.env 6=ov csInt (some L)∨∃ a g,st.env 6=.own a g∧st.heap a g=some (.row 3 1 L.length (csInt L)):=by
    rcases h3 with h3 | ⟨g,h3,hg,hh⟩ | ⟨h3,hh⟩
    ·exact .inl h3
    ·exact .inr ⟨21,g,h3,hh⟩
    ·exact .inr ⟨9,0,h3,hh⟩
   apply oT (.exit 0)
   ·simp only[Z8,seval,hI,hlt]
    rfl
   ·exact⟨rfl,by simp only[E8,seval,hI],L,by omega,by simpa only[E8,seval] using h3'⟩
 case start=>exact⟨0,by simp only[E8,seval]<;>rfl,⟨ol o,by omega,.inr (.inr ⟨by simp only[E8,seval],by simp only[E8,seval]⟩)⟩,by omega,by omega⟩
 case rest =>
  rintro e st ⟨rfl,h0,L,hL,h3⟩
  rcases h3 with h3 | ⟨a,g,h3,hh⟩
  ·simp only[Z8,seval,h3,h0]
   exact⟨_,xtwo rfl rfl rfl (by simp only[E8,seval,h3,expo_ovInt]<;>rfl) (by simp only[E8,seval,h3,expo_ovInt]<;>rfl),L,_,rfl,hL.2,pun0 hL.1⟩
  ·simp only[Z8,seval,h3,hh,h0]
   exact⟨_,xtwo rfl rfl rfl (by simp only[E8,seval,h3,hh,exFInt]<;>rfl) (by simp only[E8,seval,h3,hh,exFInt]<;>rfl),L,_,rfl,hL.2,pun0 hL.1⟩
theorem x219 (x:Slashing) (V W:Option (List Int)) (hV:x.first.vals=ov csInt V) (hW:x.second.vals=ov csInt W) (nV:((ol V).length:Int) < 99999) (nW:((ol W).length:Int) < 99999) (n:Int) :
 ∃ r,callL Tryz.prog 219 [.agg (cSlashing x),.v (.int .i64 n)]=some r∧∃ e:Int,r=.v (.int .i64 e)∧e≠21:=by
 have f1:Flat x.first.vals:=by rw[hV];exact flat_ovInt V
 have f2:Flat x.second.vals:=by rw[hW];exact flat_ovInt W
 have fx:Flat (.agg (cSlashing x)):=(fl_Slashing x).2 ⟨f1,f2⟩
 have kV:=kx (c40 V (by omega) n) (flat2 (flat_ovInt V) (.v _)) (.v _)
 have kW:=kx (c40 W (by omega) n) (flat2 (flat_ovInt W) (.v _)) (.v _)
 obtain⟨ev,hev⟩:∃ e,vlV (ol V) n=e:=⟨_,rfl⟩
 obtain⟨ew,hew⟩:∃ e,vlV (ol W) n=e:=⟨_,rfl⟩
 rw[hev] at kV
 rw[hew] at kW
 obtain⟨r1,hr1,c,rfl⟩:=x234 x.first x.second f1 f2
 have k234:=kx hr1 (flat2 ((fl_Claim _).2 f1) ((fl_Claim _).2 f2)) (.v _)
 obtain⟨r2,hr2,o,ho,hro⟩:=x221 x V W hV hW nV nW
 rw[cL Tryz.func219 rfl ok219 rfl]
 by_cases g1:ev=0
 case neg =>
  simp only[Z8,seval,hV,hW,kV,bf g1]
  exact⟨_,xtmp rfl (by simp only[E8,seval]<;>rfl) (by first | exact .v _ | simp only[FLb]),_,rfl,by rw[← hev];exact vlV_ne _ _⟩
 by_cases g2:ew=0
 case neg =>
  simp only[Z8,seval,hV,hW,kV,kW,bt g1,bf g2]
  exact⟨_,xtmp rfl (by simp only[E8,seval]<;>rfl) (by first | exact .v _ | simp only[FLb]),_,rfl,by rw[← hew];exact vlV_ne _ _⟩
 by_cases g3:x.first.target < x.first.source
 ·simp only[Z8,seval,hV,hW,kV,kW,bt g1,bt g2,g3]
  exact⟨_,xtmp rfl (by simp only[E8,seval]<;>rfl) (by first | exact .v _ | simp only[FLb]),_,rfl,by decide⟩
 by_cases g4:x.second.target < x.second.source
 ·simp only[Z8,seval,hV,hW,kV,kW,bt g1,bt g2,g3,g4]
  exact⟨_,xtmp rfl (by simp only[E8,seval]<;>rfl) (by first | exact .v _ | simp only[FLb]),_,rfl,by decide⟩
 cases c
 ·simp only[Z8,seval,hV,hW,kV,kW,bt g1,bt g2,g3,g4,k234]
  exact⟨_,xtmp rfl (by simp only[E8,seval]<;>rfl) (by first | exact .v _ | simp only[FLb]),_,rfl,by decide⟩
 rcases hro with rfl | ⟨L,hL,rfl⟩
 ·have k221:=kx hr2 (flat1 fx) (flat_ovInt o)
  by_cases g5:((ol o).length:Int)=0
  ·simp only[Z8,seval,hV,hW,kV,kW,bt g1,bt g2,g3,g4,k234,k221,bt g5]
   exact⟨_,xtmp rfl (by simp only[E8,seval]<;>rfl) (by first | exact .v _ | simp only[FLb]),_,rfl,by decide⟩
  ·simp only[Z8,seval,hV,hW,kV,kW,bt g1,bt g2,g3,g4,k234,k221,bf g5]
   exact⟨_,xtmp rfl (by simp only[E8,seval]<;>rfl) (by first | exact .v _ | simp only[FLb]),_,rfl,by decide⟩
 ·have k221:∀ (st:St) (d:Nat),callFn (callL Tryz.prog) 221 [.agg (cSlashing x)] st (some d)=_:=fun st d=>call_uniq (st:=st) (d:=d) (flat1 fx) hr2
  by_cases g5:(L.length:Int)=0
  ·simp only[Z8,seval,hV,hW,kV,kW,bt g1,bt g2,g3,g4,k234,k221,bt g5]
   exact⟨_,xtmp rfl (by simp only[E8,seval]<;>rfl) (by first | exact .v _ | simp only[FLb]),_,rfl,by decide⟩
  ·simp only[Z8,seval,hV,hW,kV,kW,bt g1,bt g2,g3,g4,k234,k221,bf g5]
   exact⟨_,xtmp rfl (by simp only[E8,seval]<;>rfl) (by first | exact .v _ | simp only[FLb]),_,rfl,by decide⟩
theorem x205 {s:Store} {v:SV} {q:Int} (h:GI s v q) (r:RG s v) (x:Slashing) (V W:Option (List Int)) (hV:x.first.vals=ov csInt V) (hW:x.second.vals=ov csInt W) (nV:((ol V).length:Int)≤1000) (nW:((ol W).length:Int)≤1000) (hq:q+1000≤900000) :
 ∃ r,callL Tryz.prog 205 [.agg (cStore s),.agg (cSlashing x)]=some r∧StN s v (q+1000) r:=by
 have hf:=h.sd.flat
 have hfl:=h.sd.fl
 have hz:=hz_zStore
 have f1:Flat x.first.vals:=by rw[hV];exact flat_ovInt V
 have f2:Flat x.second.vals:=by rw[hW];exact flat_ovInt W
 have fx:Flat (.agg (cSlashing x)):=(fl_Slashing x).2 ⟨f1,f2⟩
 obtain⟨r1,hr1,e1,rfl,he1⟩:=x219 x V W hV hW (by omega) (by omega) (ol v.B).length
 have k219:=kx hr1 (flat2 fx (.v _)) (.v _)
 obtain⟨r2,hr2,o,ho,hro⟩:=x221 x V W hV hW (by omega) (by omega)
 have nq:=h.nQ
 obtain⟨r3,hr3,L,n,rfl,hL,hLn⟩:=x220 v.Q o (by omega) (by omega)
 have fr:Flat (.tup [ov csInt (some L),.v (.int .i64 n)]):=.tup _ (flat2 (flat_ovInt _) (.v _))
 have k220:∀ (st:St) (d:Option Nat),callEat (callL Tryz.prog) 220 [ov csInt v.Q,ov csInt o] st d=_:=fun st d=>eat_call (st:=st) (d:=d) (flat2 (flat_ovInt _) (flat_ovInt _)) hr3 fr
 rw[cL Tryz.func205 rfl ok205 rfl]
 by_cases g1:e1=0
 case neg =>
  simp only[Z8,seval,k97 h.sd,k219,bf g1]
  exact⟨_,by apply xtwo;rfl;all_goals simp only[keep_none,resA,Z8,seval,hz]<;>rfl,zStore,e1,rfl,hz,he1,fun h=>absurd h g1⟩
 have hQ:((ol (some L)).length:Int)≤q+1000:=by show (L.length:Int)≤_;omega
 have h':GI { s with votes:={ s.votes with equiv:=ov csInt (some L)} } { v with Q:=some L } (q+1000) :=
  ⟨⟨h.sd.bal,h.sd.latest,rfl,h.sd.early,h.sd.orphans,h.sd.tree,h.sd.tables,h.sd.eV,h.sd.tB,h.sd.nB,h.sd.nL,by show ((ol (some L)).length:Int) < 1000000;omega,h.sd.nE,h.sd.nO,h.sd.nT,h.sd.nn⟩,h.up,h.up0,h.pos,h.nl,h.nlB,h.spe,h.lat,h.nB,h.nO,h.nOB,h.nE,h.nEB,h.nT,h.nTB,hQ,hq,h.just⟩
 have hf':=h'.sd.flat
 rcases hro with rfl | ⟨M,hM,rfl⟩
 ·have k221:=kx hr2 (flat1 fx) (flat_ovInt o)
  by_cases g2:n=0
  ·simp only[Z8,seval,k97 h.sd,k219,bt g1,h.sd.equiv,k221,k220,extA,bt g2]
   exact⟨_,by apply xtwo;rfl;all_goals simp only[keep_none,resA,Z8,seval,hz]<;>rfl,zStore,9,rfl,hz,by decide,fun h=>by cases h⟩
  ·simp only[Z8,seval,k97 h.sd,k219,bt g1,h.sd.equiv,k221,k220,extA,bf g2]
   exact⟨_,by apply xtwo;rfl;all_goals simp only[keep_none,resA,Z8,seval,hf']<;>rfl,_,0,rfl,hf',by decide,fun _=>⟨_,h',⟨r.now,r.j,r.f,r.nd,r.or,r.rt,r.fe,r.ds,r.tb,⟨fun e=>hLn g2 (by injection e),r.ne.e,r.ne.o,r.ne.t,r.ne.ea,r.ne.tb⟩⟩,rfl,rfl⟩⟩
 ·have k221:∀ (st:St) (d:Nat),callFn (callL Tryz.prog) 221 [.agg (cSlashing x)] st (some d)=_:=fun st d=>call_uniq (st:=st) (d:=d) (flat1 fx) hr2
  have k220':∀ (st:St) (a g:Nat) (d:Option Nat),st.heap a g=some (.row 3 1 M.length (csInt M))→callEat (callL Tryz.prog) 220 [ov csInt v.Q,.own a g] st d=some { dst:=d,val:=.tup [ov csInt (some L),.v (.int .i64 n)],upd:=some (a,g,none)}:=by
   intro st a g d hh
   rw[eat_one (s:=a) (k:=g) (by rw[List.flatMap_cons,flat_keys (flat_ovInt v.Q)];rfl) (by intro y hy;simp only[List.mem_cons,List.not_mem_nil,or_false] at hy;rcases hy with rfl | rfl;exact .inl (flat_ovInt _);exact .inr (.inl ⟨a,g,rfl⟩)),
    List.map_cons,List.map_cons,List.map_nil,expo_ovInt,expo_ownI hh,optAll_some,optAll_some,optAll_nil,← hM]
   exact EQ_of hr3 fr
  by_cases g2:n=0
  ·simp only[Z8,seval,k97 h.sd,k219,bt g1,h.sd.equiv,k221,k220',extA,bt g2]
   exact⟨_,by apply xtwo;rfl;all_goals simp only[keep_none,resA,Z8,seval,hz]<;>rfl,zStore,9,rfl,hz,by decide,fun h=>by cases h⟩
  ·simp only[Z8,seval,k97 h.sd,k219,bt g1,h.sd.equiv,k221,k220',extA,bf g2]
   exact⟨_,by apply xtwo;rfl;all_goals simp only[keep_none,resA,Z8,seval,hf']<;>rfl,_,0,rfl,hf',by decide,fun _=>⟨_,h',⟨r.now,r.j,r.f,r.nd,r.or,r.rt,r.fe,r.ds,r.tb,⟨fun e=>hLn g2 (by injection e),r.ne.e,r.ne.o,r.ne.t,r.ne.ea,r.ne.tb⟩⟩,rfl,rfl⟩⟩
theorem vlV_ok {l:List Int} {n:Int} (h:vlV l n=0):∀ x∈l,0≤x∧x < n:=by
 intro x hx
 unfold vlV at h
 have hne:l≠[]:=fun e=>by subst e;cases hx
 rw[if_neg hne] at h
 by_cases g:fst1 (badV l n) l.length < 0
 ·rcases fst1_cases (badV l n) l.length with ⟨_,hj⟩ | ⟨k,h1,_,_,h3⟩
  ·obtain⟨j,hj1,rfl⟩:=List.getElem_of_mem hx
   have hb:=hj j hj1
   have e:gx (0:Int) l j=l[j]:=by simp[gx,hj1]
   unfold badV at hb
   rw[e] at hb
   omega
  ·omega
 ·rw[if_neg g] at h
  split at h<;>omega
theorem caV_ok {s:Store} {v:SV} {a:Att} {V:List Int} (h:(caV s v a V).2=0):vlV V (ol v.B).length=0:=by
 unfold caV at h
 by_cases g:vlV V (ol v.B).length≠0
 ·rw[if_pos g] at h;exact h
 ·exact Classical.not_not.1 g
theorem GI.cast {s:Store} {v:SV} {q:Int} (h:GI s v q) (a:Att) (V:List Int):GI (casI s v a V) { v with L:=some (castF (ol v.L) a.target.epoch a.root V).1 } q:=by
 have hl:(castF (ol v.L) a.target.epoch a.root V).1.length=(ol v.L).length:=castF_len _ _ _ _
 exact⟨⟨h.sd.bal,rfl,h.sd.equiv,h.sd.early,h.sd.orphans,h.sd.tree,h.sd.tables,h.sd.eV,h.sd.tB,h.sd.nB,by show ((castF (ol v.L) a.target.epoch a.root V).1.length:Int) < 1000000;rw[hl];exact h.sd.nL,h.sd.nQ,h.sd.nE,h.sd.nO,h.sd.nT,h.sd.nn⟩,h.up,h.up0,h.pos,h.nl,h.nlB,h.spe,hl.trans h.lat,h.nB,h.nO,h.nOB,h.nE,h.nEB,h.nT,h.nTB,h.nQ,h.nQB,h.just⟩
def eaS (s:Store) (x:AV):Store:={ s with queues:={ s.queues with early:=x }}
theorem expoF_none {e sz n:Nat} {cs:List AV} (h:¬ ∀ c∈cs,Flat c):expoF (some (.row e sz n cs))=none:=by
 unfold expoF
 simp only[if_neg h]
theorem own_nf {a:Att} {x g:Nat} (h:a.vals=.own x g) (l:List Att):¬ ∀ c∈csAtt (l ++ [a]),Flat c:=by
 intro hf
 have hm:AV.own x g∈csAtt (l ++ [a]):=by
  unfold csAtt
  rw[List.flatMap_append,List.mem_append]
  refine .inr ?_
  rw[List.flatMap_cons,List.flatMap_nil,List.append_nil]
  unfold cAtt
  rw[h]
  simp
 have:=hf _ hm
 cases this
theorem optAll_app {α:Type} {a b:List (Option α)} {x y:List α} (ha:optAll a=some x) (hb:optAll b=some y):optAll (a ++ b)=some (x ++ y):=by
 induction a generalizing x with
 | nil=>simp only[optAll_nil,Option.some.injEq] at ha;subst ha;simpa using hb
 | cons c a ih =>
   cases c with
   | none=>simp[optAll] at ha
   | some c =>
     rw[optAll_some] at ha
     simp only[Option.map_eq_some_iff] at ha
     obtain⟨z,hz,rfl⟩:=ha
     rw[List.cons_append,optAll_some,ih hz]
     rfl
theorem optAll_id {cs:List AV} {f:AV→Option AV} (h:∀ c∈cs,f c=some c):optAll (cs.map f)=some cs:=by
 induction cs with
 | nil=>rfl
 | cons c cs ih=>rw[List.map_cons,h c (List.mem_cons_self ..),optAll_some,ih fun x hx=>h x (List.mem_cons_of_mem _ hx)];rfl
theorem expo1_fl {st:St} {c:AV} (h:Flat c):expo1 st c=some c:=by unfold expo1;rw[if_pos h]
theorem expo2_fl {st:St} {c:AV} (h:Flat c):expo2 st c=some c:=by
 unfold expo2
 cases h<;>exact expo1_fl (by constructor;try assumption)
theorem expoD_eaS {s:Store} {v:SV} (h:SD s v) (st:St) {E:List Att} (hE:∀ x∈E,Flat x.vals) {a:Att} {V:List Int} {x g x' g' n:Nat}
 (hh:st.heap x g=some (.row 87 67 n (csAtt (E ++ [{ a with vals:=.own x' g' }])))) (hh2:st.heap x' g'=some (.row 3 1 V.length (csInt V))) :
 expoD st (.agg (cStore (eaS s (.own x g))))=some (.agg (cStore (eaS s (.sl n (csAtt (E ++ [{ a with vals:=ov csInt (some V)}])))))):=by
 obtain⟨h1,h2,h3,h4,h5,h6,h7⟩:=h.fl
 have fl:∀ {cs:List AV},(∀ c∈cs,Flat c)→optAll (cs.map (expo2 st))=some cs:=fun hc=>optAll_id fun c m=>expo2_fl (hc c m)
 have fl1:∀ {cs:List AV},(∀ c∈cs,Flat c)→optAll (cs.map (expo1 st))=some cs:=fun hc=>optAll_id fun c m=>expo1_fl (hc c m)
 have hv:expo1 st (.own x' g')=some (ov csInt (some V)):=by rw[expo1_ownF,hh2];exact exFInt _ _
 have hatt:optAll ((csAtt (E ++ [{ a with vals:=.own x' g' }])).map (expo1 st))=some (csAtt (E ++ [{ a with vals:=ov csInt (some V)}])):=by
  unfold csAtt
  rw[List.flatMap_append,List.flatMap_append,List.map_append]
  refine optAll_app (fl1 (flat_csAtt E hE)) ?_
  simp only[List.flatMap_cons,List.flatMap_nil,List.append_nil]
  unfold cAtt
  rw[List.map_append,List.map_append,List.map_append]
  refine optAll_app (fl1 (flat_cU64 _)) (optAll_app (fl1 (flat_cRoot _)) (optAll_app (fl1 (flat_cCkpt _)) ?_))
  rw[List.map_cons,List.map_nil,hv];rfl
 have hea:expo2 st (.own x g)=some (.sl n (csAtt (E ++ [{ a with vals:=ov csInt (some V)}]))):=by
  unfold expo2
  simp only[hh,hatt]
  rfl
 unfold expoD
 simp only
 have:optAll ((cStore (eaS s (.own x g))).map (expo2 st))=some (cStore (eaS s (.sl n (csAtt (E ++ [{ a with vals:=ov csInt (some V)}]))))):=by
  unfold eaS cStore cQueues
  simp only[List.map_append]
  refine optAll_app (fl (flat_cConfig _ h1)) (optAll_app (fl (flat_cVotes _ h2 h3)) (optAll_app (fl (flat_cFinality _)) (optAll_app (optAll_app ?_ (fl (by simpa using h5))) (optAll_app (fl (flat_cTreeA _ h6)) (optAll_app (fl (flat_cU64 _)) (optAll_app (fl (flat_cRoot _)) (fl (by simpa using h7))))))))
  rw[List.map_cons,List.map_nil,hea];rfl
 rw[this]
 rfl
theorem expo_eaS {s:Store} {v:SV} (h:SD s v) (st:St) {E:List Att} {a:Att} {x g x' g' n:Nat} (ha:a.vals=.own x' g')
 (hh:st.heap x g=some (.row 87 67 n (csAtt (E ++ [a])))):expo st (.agg (cStore (eaS s (.own x g))))=none:=by
 have hfl:=h.fl
 have hn:=expoF_none (e:=87) (sz:=67) (n:=n) (own_nf ha E)
 unfold eaS
 simp only[expo_aggq,exq_Store,expo1_ownF,hh,hn,expo1_id,FLb,hfl,bnd_some,bnd_none]
theorem GI.early {s:Store} {v:SV} {q:Int} (h:GI s v q) (E:Option (List Att)) (hE:∀ a∈ol E,AttOk a) (hn:((ol E).length:Int)≤s.cFg.lim.earlyL):GI (eaS s (ov csAtt E)) { v with E:=E } q :=
 ⟨⟨h.sd.bal,h.sd.latest,h.sd.equiv,rfl,h.sd.orphans,h.sd.tree,h.sd.tables,hE,h.sd.tB,h.sd.nB,h.sd.nL,h.sd.nQ,by have:=h.nEB;show ((ol E).length:Int) < 1000000;omega,h.sd.nO,h.sd.nT,h.sd.nn⟩,h.up,h.up0,h.pos,h.nl,h.nlB,h.spe,h.lat,h.nB,h.nO,h.nOB,hn,h.nEB,h.nT,h.nTB,h.nQ,h.nQB,h.just⟩
theorem caV_ne (s:Store) (v:SV) (a:Att) (V:List Int):(caV s v a V).2≠21:=by
 unfold caV
 split
 ·exact vlV_ne _ _
 repeat (split;simp)
 simp
theorem x204 {s:Store} {v:SV} {q:Int} (h:GI s v q) (r:RG s v) (a:Att) (V:Option (List Int)) (hV:a.vals=ov csInt V) (nV:((ol V).length:Int) < 99999) :
 ∃ r,callL Tryz.prog 204 [.agg (cStore s),.agg (cAtt a)]=some r∧StN s v q r:=by
 have hf:=h.sd.flat
 have hfl:=h.sd.fl
 have hz:=hz_zStore
 have fa:Flat (.agg (cAtt a)):=(fl_Att a).2 (by rw[hV];exact flat_ovInt V)
 have k39:=kx (c39 h.sd h.up h.sp a V hV (by omega)) (flat2 hf fa) (.tup _ (flat2 (.v _) (.v _)))
 rw[cL Tryz.func204 rfl ok204 rfl]
 by_cases g1:(caV s v a (ol V)).2=0
 case neg =>
  simp only[Z8,seval,k39,extA,bf g1]
  exact⟨_,by apply xtwo;rfl;all_goals simp only[keep_none,resA,Z8,seval,hz]<;>rfl,zStore,_,rfl,hz,caV_ne _ _ _ _,fun h=>absurd h g1⟩
 cases g2:(caV s v a (ol V)).1
 ·have hr:∀ x∈ol V,0≤x∧x < (ol v.L).length:=by rw[h.lat];exact vlV_ok (caV_ok g1)
  have h':=h.cast a (ol V)
  have hf':=h'.sd.flat
  have k44:=kx (c44 h.sd a V hV (by omega) hr) (flat2 hf fa) hf'
  simp only[Z8,seval,k39,extA,bt g1,g2,k44]
  exact⟨_,by apply xtwo;rfl;all_goals simp only[keep_none,resA,Z8,seval,hf']<;>rfl,_,0,rfl,hf',by decide,fun _=>⟨_,h',⟨r.now,r.j,r.f,r.nd,r.or,r.rt,r.fe,r.ds,r.tb,⟨r.ne.q,r.ne.e,r.ne.o,r.ne.t,r.ne.ea,r.ne.tb⟩⟩,rfl,rfl⟩⟩
 ·by_cases g3:s.cFg.lim.earlyL≤((ol v.E).length:Int)
  ·simp only[Z8,seval,k39,extA,bt g1,g2,h.sd.early,g3]
   exact⟨_,by apply xtwo;rfl;all_goals simp only[keep_none,resA,Z8,seval,hz]<;>rfl,zStore,11,rfl,hz,by decide,fun h=>by cases h⟩
  ·have hE:∀ b∈ol (some (ol v.E ++ [{ a with vals:=ov csInt (some (ol V))}])),AttOk b:=by
    intro b hb
    rcases List.mem_append.1 (show b∈ol v.E ++ [{ a with vals:=ov csInt (some (ol V))}] from hb) with hb | hb
    ·exact h.sd.eV b hb
    ·rw[List.mem_singleton] at hb
     subst hb
     exact⟨some (ol V),rfl,by show ((ol V).length:Int) < _;omega⟩
   have hVne:ol V≠[]:=fun e=>by have h0:=caV_ok g1;rw[e] at h0;simp[vlV] at h0
   have hEa:∀ b∈ol (some (ol v.E ++ [{ a with vals:=ov csInt (some (ol V))}])),∃ W,b.vals=ov csInt (some W)∧W≠[]:=by
    intro b hb
    rcases List.mem_append.1 (show b∈ol v.E ++ [{ a with vals:=ov csInt (some (ol V))}] from hb) with hb | hb
    ·exact r.ne.ea b hb
    ·rw[List.mem_singleton] at hb
     subst hb
     exact⟨ol V,rfl,hVne⟩
   have h':=h.early (some (ol v.E ++ [{ a with vals:=ov csInt (some (ol V))}])) hE (by show (((ol v.E ++ [{ a with vals:=ov csInt (some (ol V))}]).length:Nat):Int)≤_;rw[List.length_append,List.length_cons,List.length_nil];omega)
   have hf':=h'.sd.flat
   have nE:=h.sd.nE
   have hEf:∀ x∈ol v.E,Flat x.vals:=fun x m=>(h.sd.eV x m).fl
   simp only[Z8,seval,k39,extA,bt g1,g2,h.sd.early,g3,hV,anoInts _ (show ((ol V).length:Int) < 1000000 by omega),anoAtts _ nE,aooAtt1 _ _ _ _ nE]
   have hlen:(ol v.E ++ [{ a with vals:=.own 35 0 }]).length=(ol v.E ++ [{ a with vals:=ov csInt (some (ol V))}]).length:=by rw[List.length_append,List.length_append];rfl
   exact⟨_,xtwoD rfl (by simp only[resA,Z8,seval]<;>rfl) (by simp only[resA,E8,seval]<;>rfl)
    (expo_eaS h.sd _ rfl (by simp only[E8,seval]<;>rfl)) (expoD_eaS (x':=35) (g':=0) h.sd _ hEf (by simp only[E8,seval,hlen]<;>rfl) (by simp only[E8,seval]<;>rfl)) (by simp only[Z8,seval]<;>rfl),_,0,rfl,hf',by decide,fun _=>⟨_,h',⟨r.now,r.j,r.f,r.nd,r.or,r.rt,r.fe,r.ds,r.tb,⟨r.ne.q,by simp,r.ne.o,r.ne.t,hEa,r.ne.tb⟩⟩,rfl,rfl⟩⟩
theorem x225 (ns:List Node) (hu:UpOk ns) (hr:(nd ns 0).up=-1) (hn:(ns.length:Int) < 1000000) (w:List Int) (hw:w.length=ns.length) (b:List Bool) (hb:b.length=ns.length) (i:Int) :
 ∃ r,callL Tryz.prog 225 [.agg (cTree ⟨ns⟩),.sl w.length (csU64 w),.sl b.length (csBool b),.v (.int .i64 i)]=some r∧∃ k:Int,r=.v (.int .i64 k)∧(k=-1∨(i < k∧0≤k∧k < ns.length)):=by
 rw[cL Tryz.func225 rfl ok225 rfl]
 by_cases hc:chlV ns i=[]
 ·have kc:=fun st d=>k245n ns hu hr hn i hc st d
  simp only[Z8,seval,kc]
  refine use_loopX (fun m st=>st.env 9=.v (.int .i64 (-1))∧st.env 10=.v (.slice none 0 0)∧st.env 11=.v (.int .i64 0)∧m=0) (fun e st=>e=.exit 0∧st.env 9=.v (.int .i64 (-1))) 0 ?step ?start ?rest
  case step =>
   rintro m st ⟨h9,h10,h11,_⟩
   apply oT (.exit 0)
   ·simp only[Z8,seval,h9,h10,h11,Int.lt_irrefl]
    rfl
   ·exact⟨rfl,by simp only[E8,seval,h9]⟩
  case start=>exact⟨by simp only[E8,seval]<;>rfl,by simp only[E8,seval]<;>rfl,by simp only[E8,seval]<;>rfl,rfl⟩
  case rest =>
   rintro e st ⟨rfl,h9⟩
   simp only[Z8,seval,h9]
   exact⟨_,xtmp rfl (by simp only[E8,seval,h9]<;>rfl) (by first | exact .v _ | simp only[FLb,h9]),-1,rfl,.inl rfl⟩
 have kc:=fun st d=>k245 ns hu hr hn i hc st d
 have hgt:∀ x∈chlV ns i,i < x∧0≤x∧x < ns.length:=fun x hx=>chlV_gt hu hr hx
 have hin:((chlV ns i).length:Int) < 1000000:=by
  have h1:(chlV ns i).length≤ns.length:=by
   unfold chlV
   split
   ·simp
   ·exact chl_len ns i ns.length
  omega
 obtain⟨l,el⟩:∃ l,chlV ns i=l:=⟨_,rfl⟩
 rw[el] at kc hgt hin
 simp only[Z8,seval,kc]
 refine use_loopX (fun m st=>∃ (k:Nat) (best:Int),(st.env 4=.ptr 4 0 0∧st.heap 4 0=some (.cells (cTree ⟨ns⟩))∧st.env 1=.sl w.length (csU64 w)∧st.env 2=.sl b.length (csBool b)∧st.env 10=.own 15 0∧st.heap 15 0=some (.row 3 1 l.length (csInt l))∧st.env 9=.v (.int .i64 best)∧st.env 11=.v (.int .i64 k))∧(best=-1∨(i < best∧0≤best∧best < ns.length))∧k≤l.length∧m=l.length - k)
  (fun e st=>e=.exit 0∧∃ best:Int,st.env 9=.v (.int .i64 best)∧(best=-1∨(i < best∧0≤best∧best < ns.length))) l.length ?step ?start ?rest
 case step =>
  rintro m st ⟨k,best,hI,hbest,hk,hm⟩
  by_cases hlt:(k:Int) < l.length
  case neg =>
   apply oT (.exit 0)
   ·simp only[Z8,seval,hI,hlt]
    rfl
   ·exact⟨rfl,best,by simp only[E8,seval,hI],hbest⟩
  have q0:(0:Int)≤k:=by omega
  have hwr:IntKind.i64.wrap ((k:Int)+1)=((k+1:Nat):Int):=by rw[w64 _ (by omega) (by omega)];omega
  have gi:=get_csInt0 q0 hlt
  obtain⟨c,ec⟩:∃ c,it l (k:Int)=c:=⟨_,rfl⟩
  have hc:=hgt c (by rw[← ec];obtain⟨h1,h2⟩:=it_get q0 hlt;rw[h2];exact List.getElem_mem h1)
  obtain⟨c0,c1,c2⟩:=hc
  have c3:c < (w.length:Int):=by rw[hw];exact c2
  have c4:c < (b.length:Int):=by rw[hb];exact c2
  cases g1:gx false b c
  ·apply oN (l.length - (k+1))
   ·simp only[Z8,seval,hI,hlt,q0,gi,ec,c1,c3,c4,g1,hwr,lapC,lapN]
    rfl
   ·exact⟨k+1,best,by simp only[E8,seval,hI],hbest,by omega,rfl⟩
  by_cases g2:best < 0
  ·apply oN (l.length - (k+1))
   ·simp only[Z8,seval,hI,hlt,q0,gi,ec,c1,c3,c4,g1,g2,hwr,lapC,lapN]
    rfl
   ·exact⟨k+1,c,by simp only[E8,seval,hI],.inr ⟨c0,c1,c2⟩,by omega,rfl⟩
  have b1:0≤best:=by omega
  have b2:best < ns.length:=by omega
  have b3:best < (w.length:Int):=by rw[hw];exact b2
  by_cases g3:gx (0:Int) w best < gx (0:Int) w c
  ·apply oN (l.length - (k+1))
   ·simp only[Z8,seval,hI,hlt,q0,gi,ec,c1,c3,c4,g1,g2,b1,b3,g3,hwr,lapC,lapN]
    rfl
   ·exact⟨k+1,c,by simp only[E8,seval,hI],.inr ⟨c0,c1,c2⟩,by omega,rfl⟩
  by_cases g4:gx (0:Int) w c=gx (0:Int) w best
  case neg =>
   apply oN (l.length - (k+1))
   ·simp only[Z8,seval,hI,hlt,q0,gi,ec,c1,c3,c4,g1,g2,b1,b3,g3,bf g4,hwr,lapC,lapN]
    rfl
   ·exact⟨k+1,best,by simp only[E8,seval,hI],hbest,by omega,rfl⟩
  by_cases g5:0 < cmpR (nd ns c).block.root (nd ns best).block.root
  ·apply oN (l.length - (k+1))
   ·simp only[Z8,seval,hI,hlt,q0,gi,ec,c1,c2,c3,c4,g1,g2,b1,b2,b3,g3,bt g4,k176,g5,hwr,lapC,lapN]
    rfl
   ·exact⟨k+1,c,by simp only[E8,seval,hI],.inr ⟨c0,c1,c2⟩,by omega,rfl⟩
  ·apply oN (l.length - (k+1))
   ·simp only[Z8,seval,hI,hlt,q0,gi,ec,c1,c2,c3,c4,g1,g2,b1,b2,b3,g3,bt g4,k176,g5,hwr,lapC,lapN]
    rfl
   ·exact⟨k+1,best,by simp only[E8,seval,hI],hbest,by omega,rfl⟩
 case start=>exact⟨0,-1,by simp only[E8,seval]<;>rfl,.inl rfl,by omega,by omega⟩
 case rest =>
  rintro e st ⟨rfl,best,h9,hbest⟩
  simp only[Z8,seval,h9]
  exact⟨_,xtmp rfl (by simp only[E8,seval,h9]<;>rfl) (by first | exact .v _ | simp only[FLb,h9]),best,rfl,hbest⟩
theorem x208 {s:Store} {v:SV} {q:Int} (h:GI s v q):∃ r,callL Tryz.prog 208 [.agg (cStore s)]=some r∧∃ k:Int,r=.v (.int .i64 k)∧0≤k∧k < v.ns.length:=by
 have hf:=h.sd.flat
 have hn:=h.sd.nn
 obtain⟨r1,e1,w,rfl,hw⟩:=x223 h
 obtain⟨r2,e2,b,rfl,hb⟩:=x224 h
 have k223:∀ (st:St) (d:Nat),callFn (callL Tryz.prog) 223 [.agg (cStore s)] st (some d)=_:=fun st d=>call_uniq (st:=st) (d:=d) (flat1 hf) e1
 have k224:∀ (st:St) (d:Nat),callFn (callL Tryz.prog) 224 [.agg (cStore s)] st (some d)=_:=fun st d=>call_uniq (st:=st) (d:=d) (flat1 hf) e2
 have hB:∀ i:Int,∃ k:Int,callL Tryz.prog 225 [.agg (cTree ⟨v.ns⟩),.sl w.length (csU64 w),.sl b.length (csBool b),.v (.int .i64 i)]=some (.v (.int .i64 k))∧(k=-1∨(i < k∧0≤k∧k < v.ns.length)):=fun i=>by
  obtain⟨r,hr,k,rfl,hk⟩:=x225 v.ns h.up h.up0 hn w hw b hb i
  exact⟨k,hr,hk⟩
 have kB:∀ (i:Int) (k:Int),callL Tryz.prog 225 [.agg (cTree ⟨v.ns⟩),.sl w.length (csU64 w),.sl b.length (csBool b),.v (.int .i64 i)]=some (.v (.int .i64 k))→∀ (st:St) (g1 g2:Nat) (d:Option Nat),st.heap 8 g1=some (.row 23 1 w.length (csU64 w))→st.heap 10 g2=some (.row 4 1 b.length (csBool b)) →
  callFn (callL Tryz.prog) 225 [.agg (cTree ⟨v.ns⟩),.own 8 g1,.own 10 g2,.v (.int .i64 i)] st d=some { dst:=d,val:=.v (.int .i64 k)}:=by
  intro i k hk st g1 g2 d hh1 hh2
  rw[callFn_Q,List.map_cons,List.map_cons,List.map_cons,List.map_cons,List.map_nil,expo_tree,expo_ownF,hh1,exFU64,expo_ownF,hh2,exFBool,expo_v,optAll_some,optAll_some,optAll_some,optAll_some,optAll_nil]
  exact Q_int hk
 rw[cL Tryz.func208 rfl ok208 rfl]
 simp only[Z8,seval,k223,k224,h.sd.tree,k46 _ _ hn]
 refine use_loopX (fun m st=>∃ i:Int,(st.env 1=.ptr 1 0 0∧st.heap 1 0=some (.cells (cStore s))∧st.env 3=.own 8 0∧st.heap 8 0=some (.row 23 1 w.length (csU64 w))∧st.env 4=.own 10 0∧st.heap 10 0=some (.row 4 1 b.length (csBool b))∧st.env 5=.v (.int .i64 i))∧0≤i∧i < v.ns.length∧m=v.ns.length - i.toNat)
  (fun e st=>e=.ret∧∃ i:Int,st.env 2=.v (.int .i64 i)∧0≤i∧i < v.ns.length) (v.ns.length - (findR v.ns s.finality.just.root).toNat) ?step ?start ?rest
 case step =>
  rintro m st ⟨i,hI,i0,i1,hm⟩
  obtain⟨k,hk,hkk⟩:=hB i
  have kb:=kB i k hk
  by_cases hlt:k < 0
  ·apply oT (.ret)
   ·simp only[Z8,seval,hI,h.sd.tree,kb,hlt]
    rfl
   ·exact⟨rfl,i,by simp only[E8,seval],i0,i1⟩
  ·apply oN (v.ns.length - k.toNat)
   ·simp only[Z8,seval,hI,h.sd.tree,kb,hlt]
    rfl
   ·exact⟨k,by simp only[E8,seval,hI],by omega,by omega,rfl⟩
 case start=>exact⟨_,by simp only[E8,seval]<;>rfl,h.just,(findR_range _ _).2,rfl⟩
 case rest =>
  rintro e st ⟨rfl,i,h2,i0,i1⟩
  simp only[Z8,seval]
  exact⟨_,xtmp rfl (by simp only[E8,seval,h2]<;>rfl) (by first | exact .v _ | simp only[FLb,h2]),i,rfl,i0,i1⟩
theorem fl_cmd (r:Command):Flat (.agg (cCommand r))=True:=eq_true (.agg _ (flat_cCommand r))
theorem x199 {s:Store} {v:SV} {q:Int} (h:GI s v q):∃ r,callL Tryz.prog 199 [.agg (cStore s)]=some r∧∃ c:Command,r=.agg (cCommand c):=by
 have hf:=h.sd.flat
 obtain⟨r1,e1,k,rfl,k0,k1⟩:=x208 h
 have k208:=kx e1 (flat1 hf) (.v _)
 obtain⟨r2,e2,r,rfl⟩:=x209 h.sd
 have k209:=kx e2 (flat1 hf) (flatR r)
 rw[cL Tryz.func199 rfl ok199 rfl]
 simp only[Z8,seval,k208,k209,h.sd.tree,k0,k1]
 exact⟨_,xcell rfl (by simp only[E8,seval,fl_cmd]<;>rfl) (by simp only[Z8,seval,fl_cmd]<;>rfl) (by simp only[FLb,and_self,fl_cmd]),_,rfl⟩
theorem x181 (t:State) (hf:Flat (.agg (cState t))) {v:SV} {q:Int} (h:GI t.store v q):∃ r,callL Tryz.prog 181 [.agg (cState t)]=some r∧∃ (b:Bool) (c:Command) (y:AV),r=.tup [.agg (cState { t with sent:=b,last:=c }),y]∧Flat y:=by
 have hfs:=h.sd.flat
 have hfl:=(fl_State t).1 hf
 obtain⟨r1,e1,c,rfl⟩:=x199 h
 have k199:=kx e1 (flat1 hfs) (.agg _ (flat_cCommand c))
 have hfc:∀ x∈cCommand c,Flat x:=flat_cCommand c
 have ex:expoF (some (.row 56 96 1 (cCommand c)))=some (.sl 1 (cCommand c)):=by
  unfold expoF
  simp only[if_pos hfc]
 rw[cG Tryz.func181 rfl ok181 (by kernel_rfl) rfl]
 have hf':Flat (.agg (cState { t with sent:=true,last:=c })):=(fl_State _).2 hfl
 cases g1:t.sent
 ·simp only[ZG,seval,Bool.false_and,Prod.mk.injEq,DY181,k199,g1]
  exact⟨_,by apply xtwo;rfl;all_goals simp only[keep_none,resA,Z8,seval,hf',ex]<;>rfl,true,c,_,rfl,.sl _ _ hfc⟩
 ·by_cases g2:t.last=c
  ·simp only[ZG,seval,Bool.false_and,Prod.mk.injEq,DY181,k199,g1,g2]
   exact⟨_,by apply xtwo;rfl;all_goals simp only[keep_none,resA,Z8,seval,hf]<;>rfl,t.sent,t.last,_,rfl,.v _⟩
  ·simp only[ZG,seval,Bool.false_and,Prod.mk.injEq,DY181,k199,g1,g2]
   exact⟨_,by apply xtwo;rfl;all_goals simp only[keep_none,resA,Z8,seval,hf',ex]<;>rfl,true,c,_,rfl,.sl _ _ hfc⟩
theorem wrap_u64 (x:Int) (h1:0≤x) (h2:x < 18446744073709551616):IntKind.u64.wrap x=x:=by
 unfold IntKind.wrap
 simp[IntKind.signed,IntKind.bits]
 omega
theorem c175s (o:Option (List Int)) (hn:((ol o).length:Int)≤1000) (hb:∀ x∈ol o,0≤x∧x≤1000):∃ a:Int,callL Tryz.prog 175 [ov csU64 o]=some (.tup [.v (.int .u64 a),.v (.int .i64 0)])∧0≤a∧a≤1000000:=by
 suffices h:∃ r,callL Tryz.prog 175 [ov csU64 o]=some r∧∃ a:Int,r=.tup [.v (.int .u64 a),.v (.int .i64 0)]∧0≤a∧a≤1000000 by
  obtain⟨r,h,a,rfl,h1⟩:=h;exact⟨a,h,h1⟩
 have add:∀ (a:Int) (k:Nat),0≤a∧a≤1000 * k→k < (ol o).length→addV a (gx (0:Int) (ol o) (k:Int))=(a+gx (0:Int) (ol o) (k:Int),0)∧0≤a+gx (0:Int) (ol o) (k:Int)∧a+gx (0:Int) (ol o) (k:Int)≤1000 * ((k+1:Nat):Int):=by
  intro a k ha hk
  have hx:=hb _ (gx_mem (z:=(0:Int)) (show (0:Int)≤k by omega) (show (k:Int) < (ol o).length by omega))
  obtain⟨x,ex⟩:∃ x,gx (0:Int) (ol o) (k:Int)=x:=⟨_,rfl⟩
  rw[ex] at hx ⊢
  have w1:IntKind.u64.wrap (18446744073709551615 - x)=18446744073709551615 - x:=wrap_u64 _ (by omega) (by omega)
  have w2:IntKind.u64.wrap (a+x)=a+x:=wrap_u64 _ (by omega) (by omega)
  unfold addV
  rw[w1,w2,if_neg (by omega)]
  exact⟨rfl,by omega,by omega⟩
 rw[cL Tryz.func175 rfl ok175 (by cases o<;>rfl)]
 simp only[Z8,seval]
 refine use_loopX (fun m st=>∃ (k:Nat) (a:Int),(st.env 0=ov csU64 o∧st.env 4=.v (.int .u64 a)∧st.env 5=.v (.int .i64 k))∧(0≤a∧a≤1000 * k)∧k≤(ol o).length∧m=(ol o).length - k)
  (fun e st=>e=.exit 0∧∃ a:Int,st.env 4=.v (.int .u64 a)∧0≤a∧a≤1000000) (ol o).length ?step ?start ?rest
 case step =>
  rintro m st ⟨k,a,hI,ha,hk,hm⟩
  by_cases hlt:(k:Int) < (ol o).length
  ·have q0:(0:Int)≤k:=by omega
   have hw:IntKind.i64.wrap ((k:Int)+1)=((k+1:Nat):Int):=by rw[w64 _ (by omega) (by omega)];omega
   obtain⟨h1,h2⟩:=add a k ha (by omega)
   apply oN ((ol o).length - (k+1))
   ·simp only[Z8,seval,hI,hlt,q0,k196,extA,h1,hw]
    rfl
   ·exact⟨k+1,_,by simp only[E8,seval,hI]<;>rfl,h2,by omega,rfl⟩
  ·apply oT (.exit 0)
   ·simp only[Z8,seval,hI,hlt]
    rfl
   ·exact⟨rfl,a,by simp only[E8,seval,hI],by omega⟩
 case start=>exact⟨0,0,by simp only[E8,seval]<;>exact⟨rfl,rfl⟩,by omega,by omega,by omega⟩
 case rest =>
  rintro e st ⟨rfl,a,h,ha⟩
  simp only[Z8,seval,h]
  exact⟨_,xtwo rfl rfl rfl (by simp only[E8,seval,h]<;>rfl) (by simp only[E8,seval,h]<;>rfl),_,rfl,ha⟩
theorem c130s (t:Table) (b:Option (List Int)) (ht:t.bal=ov csU64 b) (hn:((ol b).length:Int)≤1000) (hb:∀ x∈ol b,0≤x∧x≤1000):callL Tryz.prog 130 [.agg (cTable t),.v (.int .i64 (ol b).length)]=some (.v (.int .i64 0)):=by
 obtain⟨a,hr,a0,a1⟩:=c175s b hn hb
 have k175:=kx hr (flat1 (flat_ovU64 b)) (.tup _ (flat2 (.v _) (.v _)))
 rw[cL Tryz.func130 rfl ok130 rfl]
 refine ex_eq ?_
 have h3:(4611686018427387904 < a)=False:=eq_false (by omega)
 simp only[Z8,seval,ht,bt (rfl:((ol b).length:Int)=(ol b).length),k175,extA,h3]
 exact⟨_,xtmp rfl (by simp only[E8,seval]<;>rfl) (by first | exact .v _ | simp only[FLb]),rfl⟩
theorem mkRoot1:mkRoot 1≠zRoot:=by decide
structure CfgOk (c:Config) (b:List Int):Prop where
 bal:c.bal=ov csU64 (some b)
 nb:1≤b.length∧b.length≤64
 bv:∀ x∈b,0≤x∧x≤1000
 spe:1≤c.spe∧c.spe≤64
 bp:c.boostP≤100
 nodeL:1≤c.lim.nodeL∧c.lim.nodeL≤4096
 orphL:0≤c.lim.orphL∧c.lim.orphL≤64
 earlyL:0≤c.lim.earlyL∧c.lim.earlyL≤256
 tableL:1≤c.lim.tableL∧c.lim.tableL≤64
 retryL:0≤c.lim.retryL∧c.lim.retryL≤256
 back:1≤c.lim.backoff∧c.lim.backoff≤1048576
 gen:c.genesis=mkRoot 1
 n6:6≤c.lim.nodeL
theorem mkVote (n:Nat):((List.range n).flatMap fun _=>cVote zVote)=csVote (List.replicate n zVote):=by
 induction n with
 | zero=>rfl
 | succ n ih=>rw[List.range_succ,List.flatMap_append,ih,List.replicate_succ',csVote,csVote,List.flatMap_append];simp
theorem csTable1 (t:Table):csTable [t]=cTable t:=by simp[csTable]
def genB (c:Config):Block:={ zBlock with root:=c.genesis,just:=⟨0,c.genesis⟩,fin:=⟨0,c.genesis⟩,pulled:=⟨⟨0,c.genesis⟩,⟨0,c.genesis⟩⟩}
def newS (c:Config) (b:List Int):Store:=⟨c,⟨ov csVote (some (List.replicate b.length zVote)),.v (.slice none 0 0)⟩,⟨⟨0,c.genesis⟩,⟨0,c.genesis⟩⟩,zQueues,⟨.sl 1 (csNode [⟨genB c,-1,1⟩])⟩,0,zRoot,ov csTable (some [⟨⟨0,c.genesis⟩,ov csU64 (some b)⟩])⟩
def newW (c:Config) (b:List Int):SV:={ B:=some b,L:=some (List.replicate b.length zVote),Q:=none,E:=none,O:=none,ns:=[⟨genB c,-1,1⟩],T:=some [⟨⟨0,c.genesis⟩,ov csU64 (some b)⟩]}
theorem GI.new {c:Config} {b:List Int} (h:CfgOk c b):GI (newS c b) (newW c b) 0:=by
 have hb:=h.nb
 refine⟨⟨h.bal,rfl,rfl,rfl,rfl,rfl,rfl, ?_, ?_, ?_, ?_, ?_, ?_, ?_, ?_, ?_⟩, ?_, ?_, ?_, ?_,h.nodeL.2,h.spe, ?_, ?_, ?_,h.orphL.2, ?_,h.earlyL.2, ?_,h.tableL.2, ?_,by omega, ?_⟩
 ·intro a ha;cases ha
 ·intro t ht
  rw[show t=⟨⟨0,c.genesis⟩,ov csU64 (some b)⟩ by simpa [newW,ol] using ht]
  exact⟨some b,rfl,by show (b.length:Int) < _;omega⟩
 ·show (b.length:Int) < _;omega
 ·show ((List.replicate b.length zVote).length:Int) < _;rw[List.length_replicate];omega
 ·show ((0:Nat):Int) < _;omega
 ·show ((0:Nat):Int) < _;omega
 ·show ((0:Nat):Int) < _;omega
 ·show ((1:Nat):Int) < _;omega
 ·show ((1:Nat):Int) < _;omega
 ·intro i h0 h1;have:i < ((1:Nat):Int):=h1;omega
 ·rfl
 ·show 0 < 1;omega
 ·show ((1:Nat):Int)≤c.lim.nodeL;have:=h.nodeL.1;omega
 ·show (List.replicate b.length zVote).length=b.length;rw[List.length_replicate]
 ·show (b.length:Int)≤1024;omega
 ·show ((0:Nat):Int)≤c.lim.orphL;have:=h.orphL.1;omega
 ·show ((0:Nat):Int)≤c.lim.earlyL;have:=h.earlyL.1;omega
 ·show ((1:Nat):Int)≤c.lim.tableL;have:=h.tableL.1;omega
 ·show ((0:Nat):Int)≤0;omega
 ·exact findR_ge (j:=0) (by omega) (by show (0:Int) < ((1:Nat):Int);omega) rfl
theorem c102 {c:Config} {b:List Int} (h:CfgOk c b):callL Tryz.prog 102 [.agg (cConfig c)]=some (.tup [.agg (cStore (newS c b)),.v (.int .i64 0)]):=by
 obtain⟨hbal,hnb,hbv,hspe,hbp,h1,h2,h3,h4,h5,h6,hg0,_⟩:=h
 have hg:c.genesis≠zRoot:=by rw[hg0];exact mkRoot1
 have f1:=hspe.1;have f2:¬ 64 < c.spe:=by omega
 have f1':¬ c.spe < 1:=by omega
 have f3:¬ 100 < c.boostP:=by omega
 have f4:¬ (1024:Int) < (b.length:Int):=by omega
 have f6:¬ c.lim.backoff < 1:=by omega
 have f7:¬ 1048576 < c.lim.backoff:=by omega
 have n1:((ol (some b)).length:Int) < 1000000:=by show (b.length:Int) < _;omega
 have hb0:(0:Int)≤(b.length:Int):=by omega
 have hb1:(b.length:Int) * 48≤140737488355328:=by omega
 have hb2:(b.length:Int)≤(maxLen:Int):=by unfold maxLen;omega
 have zE:zCkpt.epoch=0:=rfl
 have kt:∀ (st:St) (d:Option Nat),callFn (callL Tryz.prog) 130 [.agg (cTable ⟨⟨0,c.genesis⟩,ov csU64 (some b)⟩),.v (.int .i64 b.length)] st d=some { dst:=d,val:=.v (.int .i64 0)}:=kx (c130s ⟨⟨0,c.genesis⟩,ov csU64 (some b)⟩ (some b) rfl (by show (b.length:Int)≤_;omega) hbv) (flat2 ((fl_Table ⟨⟨0,c.genesis⟩,ov csU64 (some b)⟩).2 (flat_ovU64 (some b))) (.v _)) (.v _)
 have k158:=kx (c158 ⟨⟨0,c.genesis⟩,ov csU64 (some b)⟩ (some b) rfl n1) (flat1 ((fl_Table ⟨⟨0,c.genesis⟩,ov csU64 (some b)⟩).2 (flat_ovU64 (some b)))) ((fl_Table ⟨⟨0,c.genesis⟩,ov csU64 (some b)⟩).2 (flat_ovU64 (some b)))
 rw[cL Tryz.func102 rfl ok102 rfl]
 refine ex_eq ?_
 simp only[Z8,seval,lapC,lapN,hbal,f1',f2,f3,f4,f6,f7,k156,h1.1,h1.2,h2.1,h2.2,h3.1,h3.2,h4.1,h4.2,h5.1,h5.2,hg,zE,kt,hb0,hb1,hb2,Int.toNat_natCast,mkVote,k158,k157,anoU64s b (show (b.length:Int) < 1000000 by omega)]
 have exT:=exFTable 1 [⟨⟨0,c.genesis⟩,ov csU64 (some b)⟩] (by intro y hy;rw[List.mem_singleton] at hy;subst hy;exact flat_ovU64 (some b))
 rw[csTable1] at exT
 have hcc:∀ x,x=c.bal→({ lim:=c.lim,spe:=c.spe,boostP:=c.boostP,ttd:=c.ttd,genesis:=c.genesis,bal:=x }:Config)=c:=by rintro _ rfl;rfl
 have zs:zStore.votes.equiv=.v (.slice none 0 0)∧zStore.queues.early=.v (.slice none 0 0)∧zStore.queues.orphans=.v (.slice none 0 0):=⟨rfl,rfl,rfl⟩
 exact⟨_,by apply xtwo;rfl;all_goals simp only[keep_none,resA,Z8,seval,expo_aggq,exq_Store,expo1_ownF,exFU64,exFVote,exT,expo1_id,FLb,zs]<;>rfl,by unfold newS;simp only[ov,List.length_replicate,csTable1,hcc (.sl b.length (csU64 b)) hbal.symm]<;>rfl⟩
end Go.Ab.Tryz
section
namespace Go.Ab
open Classical
theorem callM_f [Ext] (P:Program) {f:Nat} {fn:Func} {c:Code} (hf:P.funcs[f]? = some fn) (hb:fn.body=some c) (hok:fnOkN fn=true) (e sz m:Nat) (cs xs:List AV) (hx:Ext.ext f (.uniq e sz m cs :: xs)=none) :
 callL P f (.uniq e sz m cs :: xs)=bnd (evL P c (St.initM e sz m cs xs)) (endM P fn):=by
 simp only[fnOkN,hb,Bool.and_eq_true,Bool.not_eq_true'] at hok
 rw[callM_eq P hf hb hok.1 e sz m cs xs hx,hok.2]
 rfl
theorem callM_t [Ext] (P:Program) {f:Nat} {fn:Func} {c:Code} (hf:P.funcs[f]? = some fn) (hb:fn.body=some c) (hok:fnOk fn=true) (hc:codeInl c=true) (e sz m:Nat) (cs xs:List AV) (hx:Ext.ext f (.uniq e sz m cs :: xs)=none) :
 callL P f (.uniq e sz m cs :: xs)=bnd (evG P true c (St.initM e sz m cs xs)) (endM P fn):=by
 rw[callM_eq P hf hb hok e sz m cs xs hx,hc]
theorem endM_tmp [Ext] {P:Program} {fn:Func} {st:St} {e:Ex} {t s g ee sz n:Nat} {cs:List AV} (he:e=.ret∨e=.normal) (hr:fn.results.toList=[.tmp t]) (h1:st.env t=.own s g) (h2:st.heap s g=some (.row ee sz n cs)) (hm:∀ c∈cs,MemFree c) :
 endM P fn (e,st)=some (.uniq ee sz n cs):=endM_own he hr (by unfold resVal;simp only[h1]) h2 hm
end Go.Ab
namespace Go.Ab.Tryz
open Classical Go.Proofs Go.Ab
theorem mem_csU8 (l:List Int):∀ c∈csU8 l,MemFree c:=by
 intro c hc
 unfold csU8 at hc
 obtain⟨x,_,hx⟩:=List.mem_flatMap.1 hc
 rw[cU8,List.mem_singleton] at hx
 subst hx
 exact .v _
def Wr (F:Nat) (rest:List AV) (K:Int):Prop:=∀ l:List Int,(l.length:Int)+K < 900000→∃ m:List Int,callL Tryz.prog F (.uniq 5 1 l.length (csU8 l) :: rest)=some (.uniq 5 1 m.length (csU8 m))∧(m.length:Int)≤l.length+K
def WrN (F:Nat) (rest:List AV) (K:Int):Prop:=∃ m:List Int,callL Tryz.prog F (.v (.slice none 0 0) :: rest)=some (.uniq 5 1 m.length (csU8 m))∧(m.length:Int)≤K
theorem Wr.at {F:Nat} {rest:List AV} {K:Int} (h:Wr F rest K) (hr:∀ x∈rest,Flat x) {l:List Int} (hl:(l.length:Int)+K < 900000) :
 ∃ m:List Int,(∀ s k d c,mvE (callL Tryz.prog) F rest s k d c (some (.row 5 1 l.length (csU8 l)))=some { dst:=some d,val:=.own d c,upd:=some (s,k,none),new:=some (d,[.row 5 1 m.length (csU8 m)])})∧(m.length:Int)≤l.length+K:=by
 obtain⟨m,h1,h2⟩:=h l hl
 exact⟨m,fun s k d c=>mvE_uniq (flat_csU8 l) hr h1,h2⟩
theorem WrN.at {F:Nat} {rest:List AV} {K:Int} (h:WrN F rest K) (hr:∀ x∈rest,Flat x) :
 ∃ m:List Int,(∀ (st:St) (d:Nat),callMv (callL Tryz.prog) F (.v (.slice none 0 0) :: rest) st (some d)=some { dst:=some d,val:=.own d (st.cnt d),new:=some (d,[.row 5 1 m.length (csU8 m)])})∧(m.length:Int)≤K:=by
 obtain⟨m,h1,h2⟩:=h
 exact⟨m,fun st d=>callMv_nil hr h1,h2⟩
def tb:Nat→Int
 | 0=>18446744073709551616
 | k+1=>tb k / 128+1
theorem tb9:tb 9=3:=by decide
theorem fdiv7 (x:Int):x.fdiv (2 ^ min 7 IntKind.u64.bits)=x / 128:=by
 show x.fdiv 128=x / 128
 exact Int.fdiv_eq_ediv_of_nonneg x (by decide)
theorem csU8_eq (l:List Int):csU8 l=l.map fun x=>.v (.int .u8 x):=by
 induction l with
 | nil=>rfl
 | cons a l ih=>simp only[csU8,List.flatMap_cons,List.map_cons,cU8] at *;rw[ih];rfl
theorem cRoot_U8 (r:Root):cRoot r=csU8 r.toList:=by rw[csU8_eq];rfl
theorem bin_or' {P:Program} {T:Nat} {k:IntKind} {a b:Int}:binA P .or T (.v (.int k a)) (.v (.int k b))=some (.v (.int k (k.wrap (BitVec.ofInt k.bits a ||| BitVec.ofInt k.bits b).toNat))):=by simp[binA]
theorem sl27n:slInfo Tryz.prog 27=none:=by kernel_rfl
theorem arr27 (st:St) (s g o:Nat):sliceA Tryz.prog st 27 (.ptr s g o) none none=some (.vw s g o 32):=by
 simp only[sliceA,sl27n,ar27]
theorem view32 (st:St) (s g:Nat) (r:Root) (h:st.heap s g=some (.cells (cRoot r))):sliceView st (.vw s g 0 32)=some (r.toList.length,csU8 r.toList):=by
 have hl:(cRoot r).length=32:=len_cRoot r
 simp only[sliceView,h,Nat.zero_add,List.drop_zero]
 rw[if_pos (by omega),List.take_of_length_le (by omega),cRoot_U8]
 simp
theorem w215 (n:Int) (hn:Rg n):Wr 215 [.v (.int .u64 n)] 10:=by
 intro l hl
 suffices h:∃ r,callL Tryz.prog 215 [.uniq 5 1 l.length (csU8 l),.v (.int .u64 n)]=some r∧∃ m:List Int,r=.uniq 5 1 m.length (csU8 m)∧(m.length:Int)≤l.length+10 by
  obtain⟨r,h,m,rfl,h2⟩:=h;exact⟨m,h,h2⟩
 rw[callM_f Tryz.prog Tryz.func215 rfl ok215 _ _ _ _ _ (ext_none _ _)]
 simp only[Z8,seval,initM_env0,initM_env,initM_heap,initM_cnt0,initM_cnt]
 refine use_loopX (fun m st=>∃ (x:Int) (k:Nat) (l':List Int) (a g:Nat),(st.env 0=.own a g∧st.heap a g=some (.row 5 1 l'.length (csU8 l'))∧st.env 1=.v (.int .u64 x))∧((a=0∧g=0)∨(a=13∧g < st.cnt 13))∧l'.length=l.length+k∧0≤x∧x < tb k∧k≤9∧m=x.toNat)
  (fun e st=>e=.exit 0∧∃ (x:Int) (l':List Int) (a g:Nat),(st.env 0=.own a g∧st.heap a g=some (.row 5 1 l'.length (csU8 l'))∧st.env 1=.v (.int .u64 x))∧a≠19∧(l'.length:Int)≤l.length+9) n.toNat ?step ?start ?rest
 case step =>
  rintro m st ⟨x,k,l',a,g,hI,hag,hl',x0,hx,hk,hm⟩
  by_cases hlt:127 < x
  ·have hk8:k≤8:=by
    rcases Nat.lt_or_ge k 9 with h | h
    ·omega
    ·have:k=9:=by omega
     subst this;rw[tb9] at hx;omega
   have hn1:(l'.length:Int) < 1000000:=by omega
   have hx':x / 128 < tb (k+1):=by show x / 128 < tb k / 128+1;omega
   have ll:∀ b:Int,(l' ++ [b]).length=l.length+(k+1):=fun b=>by rw[List.length_append,List.length_cons,List.length_nil];omega
   rcases hag with ⟨rfl,rfl⟩ | ⟨rfl,hg⟩
   ·apply oN ((x / 128).toNat)
    ·simp only[Z8,seval,hI,hlt,bin_or',aooU81 _ _ _ _ hn1,fdiv7]
     rfl
    ·exact⟨x / 128,k+1,_,13,_,by and_intros<;>(simp only[E8,seval]<;>rfl),.inr ⟨rfl,by simp only[E8,seval]<;>omega⟩,ll _,by omega,hx',by omega,rfl⟩
   ·have hgn:(g=st.cnt 13)=False:=eq_false (by omega)
    apply oN ((x / 128).toNat)
    ·simp only[Z8,seval,hI,hlt,hgn,bin_or',aooU81 _ _ _ _ hn1,fdiv7]
     rfl
    ·exact⟨x / 128,k+1,_,13,_,by and_intros<;>(simp only[E8,seval]<;>rfl),.inr ⟨rfl,by simp only[E8,seval]<;>omega⟩,ll _,by omega,hx',by omega,rfl⟩
  ·apply oT (.exit 0)
   ·simp only[Z8,seval,hI,hlt]
    rfl
   ·exact⟨rfl,x,l',a,g,by simp only[E8,seval,hI],by omega,by omega⟩
 case start=>exact⟨n,0,l,0,0,by simp only[E8,seval,initM_env0,initM_env,initM_heap,initM_cnt0,initM_cnt]<;>rfl,.inl ⟨rfl,rfl⟩,rfl,hn.1,hn.2,by omega,rfl⟩
 case rest =>
  rintro e st ⟨rfl,x,l',a,g,hI,ha,hl'⟩
  have ha':(a=19)=False:=eq_false ha
  have hn1:(l'.length:Int) < 1000000:=by omega
  simp only[Z8,seval,hI,ha',aooU81 _ _ _ _ hn1]
  exact⟨_,endM_tmp (.inl rfl) rfl (by simp only[E8,seval]<;>rfl) (by simp only[E8,seval]<;>rfl) (mem_csU8 _),_,rfl,by rw[List.length_append,List.length_cons,List.length_nil];omega⟩
theorem n215 (n:Int) (hn:Rg n):WrN 215 [.v (.int .u64 n)] 10:=by
 suffices h:∃ r,callL Tryz.prog 215 [.v (.slice none 0 0),.v (.int .u64 n)]=some r∧∃ m:List Int,r=.uniq 5 1 m.length (csU8 m)∧(m.length:Int)≤10 by
  obtain⟨r,h,m,rfl,h2⟩:=h;exact⟨m,h,h2⟩
 rw[cL Tryz.func215 rfl ok215 rfl]
 simp only[Z8,seval]
 refine use_loopX (fun m st=>∃ (x:Int) (k:Nat),st.env 1=.v (.int .u64 x)∧((k=0∧st.env 0=.v (.slice none 0 0))∨∃ (l':List Int) (g:Nat),(st.env 0=.own 13 g∧st.heap 13 g=some (.row 5 1 l'.length (csU8 l')))∧g < st.cnt 13∧l'.length=k)∧0≤x∧x < tb k∧k≤9∧m=x.toNat)
  (fun e st=>e=.exit 0∧∃ (x:Int),st.env 1=.v (.int .u64 x)∧(st.env 0=.v (.slice none 0 0)∨∃ (l':List Int) (g:Nat),(st.env 0=.own 13 g∧st.heap 13 g=some (.row 5 1 l'.length (csU8 l')))∧(l'.length:Int)≤9)) n.toNat ?step ?start ?rest
 case step =>
  rintro m st ⟨x,k,hI,h0,x0,hx,hk,hm⟩
  by_cases hlt:127 < x
  ·have hk8:k≤8:=by
    rcases Nat.lt_or_ge k 9 with h | h
    ·omega
    ·have:k=9:=by omega
     subst this;rw[tb9] at hx;omega
   have hx':x / 128 < tb (k+1):=by show x / 128 < tb k / 128+1;omega
   rcases h0 with ⟨hk0,h0⟩ | ⟨l',g,h0,hg,hl'⟩
   ·have ll:∀ b:Int,([b]:List Int).length=k+1:=fun b=>by rw[List.length_cons,List.length_nil];omega
    apply oN ((x / 128).toNat)
    ·simp only[Z8,seval,hI,h0,hlt,bin_or',anoU81,fdiv7]
     rfl
    ·exact⟨x / 128,k+1,by simp only[E8,seval],.inr ⟨_,_,⟨by simp only[E8,seval]<;>rfl,by simp only[E8,seval]<;>rfl⟩,by simp only[E8,seval]<;>omega,ll _⟩,by omega,hx',by omega,rfl⟩
   ·have hn1:(l'.length:Int) < 1000000:=by omega
    have ll:∀ b:Int,(l' ++ [b]).length=k+1:=fun b=>by rw[List.length_append,List.length_cons,List.length_nil];omega
    have hgn:(g=st.cnt 13)=False:=eq_false (by omega)
    apply oN ((x / 128).toNat)
    ·simp only[Z8,seval,hI,h0,hlt,hgn,bin_or',aooU81 _ _ _ _ hn1,fdiv7]
     rfl
    ·exact⟨x / 128,k+1,by simp only[E8,seval],.inr ⟨_,_,⟨by simp only[E8,seval]<;>rfl,by simp only[E8,seval]<;>rfl⟩,by simp only[E8,seval]<;>omega,ll _⟩,by omega,hx',by omega,rfl⟩
  ·have h0':st.env 0=.v (.slice none 0 0)∨∃ (l':List Int) (g:Nat),(st.env 0=.own 13 g∧st.heap 13 g=some (.row 5 1 l'.length (csU8 l')))∧(l'.length:Int)≤9:=by
    rcases h0 with ⟨_,h0⟩ | ⟨l',g,h0,hg,hl'⟩
    ·exact .inl h0
    ·exact .inr ⟨l',g,h0,by omega⟩
   apply oT (.exit 0)
   ·simp only[Z8,seval,hI,hlt]
    rfl
   ·exact⟨rfl,x,by simp only[E8,seval,hI],by simpa only[E8,seval] using h0'⟩
 case start=>exact⟨n,0,by simp only[E8,seval]<;>rfl,.inl ⟨rfl,by simp only[E8,seval]<;>rfl⟩,hn.1,hn.2,by omega,rfl⟩
 case rest =>
  rintro e st ⟨rfl,x,hI,h0⟩
  rcases h0 with h0 | ⟨l',g,h0,hl'⟩
  ·simp only[Z8,seval,hI,h0,anoU81]
   exact⟨_,endL_row (n:=([IntKind.u8.wrap x]:List Int).length) (cs:=csU8 [IntKind.u8.wrap x]) (keep_none (by decide)) (.inl rfl) rfl (by simp only[E8,seval]<;>rfl) (by simp only[E8,seval]<;>rfl) (flat_csU8 _),_,rfl,by rw[List.length_cons,List.length_nil];omega⟩
  ·have hn1:(l'.length:Int) < 1000000:=by omega
   simp only[Z8,seval,hI,h0,aooU81 _ _ _ _ hn1]
   exact⟨_,xrow rfl (by simp only[E8,seval]<;>rfl) (by simp only[E8,seval]<;>rfl) (flat_csU8 _),_,rfl,by rw[List.length_append,List.length_cons,List.length_nil];omega⟩
theorem w226 (r:Root):Wr 226 [.agg (cRoot r)] 32:=by
 intro l hl
 suffices h:∃ x,callL Tryz.prog 226 [.uniq 5 1 l.length (csU8 l),.agg (cRoot r)]=some x∧∃ m:List Int,x=.uniq 5 1 m.length (csU8 m)∧(m.length:Int)≤l.length+32 by
  obtain⟨r,h,m,rfl,h2⟩:=h;exact⟨m,h,h2⟩
 have hn1:(l.length:Int) < 1000000:=by omega
 have hc:cRoot r=csU8 r.toList:=cRoot_U8 r
 have hr:(r.toList.length:Int) < 1000000:=by simp
 rw[callM_f Tryz.prog Tryz.func226 rfl ok226 _ _ _ _ _ (ext_none _ _)]
 simp only[Z8,seval,initM_env0,initM_env,initM_heap,initM_cnt0,initM_cnt,arr27,view32 _ _ _ r,aooU8s _ _ _ _ hn1 hr]
 exact⟨_,endM_tmp (.inl rfl) rfl (by simp only[E8,seval]<;>rfl) (by simp only[E8,seval]<;>rfl) (mem_csU8 _),_,rfl,by rw[List.length_append];simp⟩
theorem w228 (c:Ckpt) (h:Rg c.epoch):Wr 228 [.agg (cCkpt c)] 42:=by
 intro l hl
 suffices h:∃ r,callL Tryz.prog 228 [.uniq 5 1 l.length (csU8 l),.agg (cCkpt c)]=some r∧∃ m:List Int,r=.uniq 5 1 m.length (csU8 m)∧(m.length:Int)≤l.length+42 by
  obtain⟨r,h,m,rfl,h2⟩:=h;exact⟨m,h,h2⟩
 obtain⟨m1,e1,b1⟩:=(w215 c.epoch h).at (flat1 (.v _)) (l:=l) (by omega)
 obtain⟨m2,e2,b2⟩:=(w226 c.root).at (flat1 (flatR _)) (l:=m1) (by omega)
 rw[callM_t Tryz.prog Tryz.func228 rfl ok228 (by kernel_rfl) _ _ _ _ _ (ext_none _ _)]
 simp only[ZG,seval,Bool.false_and,Prod.mk.injEq,DY228,initM_env0,initM_env,initM_heap,initM_cnt0,initM_cnt,e1,e2]
 exact⟨_,endM_tmp (.inl rfl) rfl (by simp only[E8,seval]<;>rfl) (by simp only[E8,seval]<;>rfl) (mem_csU8 _),_,rfl,by omega⟩
end Go.Ab.Tryz
end
namespace Go.Ab.Tryz
open Classical Go.Proofs Go.Ab
theorem x105 (o p:Option (List Int)) (hn:((ol o).length:Int) < 1000000):∃ r,callL Tryz.prog 105 [ov csInt o,ov csInt p]=some r∧∃ b:Bool,r=.v (.bool b):=by
 rw[cL Tryz.func105 rfl ok105 (by cases o<;>cases p<;>rfl)]
 by_cases g:((ol o).length:Int)=((ol p).length:Int)
 case neg =>
  simp only[Z8,seval,bf g]
  exact⟨_,xtmp rfl (by simp only[E8,seval]<;>rfl) (by first | exact .v _ | simp only[FLb]),_,rfl⟩
 simp only[Z8,seval,bt g]
 refine use_loopX (fun m st=>∃ k:Nat,(st.env 0=ov csInt o∧st.env 1=ov csInt p∧st.env 5=.v (.int .i64 k))∧k≤(ol o).length∧m=(ol o).length - k)
  (fun e st=>(e=.ret∧st.env 4=.v (.bool false))∨e=.exit 0) (ol o).length ?step ?start ?rest
 case step =>
  rintro m st ⟨k,hI,hk,hm⟩
  by_cases hlt:(k:Int) < (ol o).length
  ·have q0:(0:Int)≤k:=by omega
   have q1:(k:Int) < ((ol p).length:Int):=by omega
   have hw:IntKind.i64.wrap ((k:Int)+1)=((k+1:Nat):Int):=by rw[w64 _ (by omega) (by omega)];omega
   by_cases hh:gx (0:Int) (ol o) (k:Int)=gx (0:Int) (ol p) (k:Int)
   ·apply oN ((ol o).length - (k+1))
    ·simp only[Z8,seval,hI,hlt,q0,q1,bt hh,hw]
     rfl
    ·exact⟨k+1,by simp only[E8,seval,hI],by omega,rfl⟩
   ·apply oT (.ret)
    ·simp only[Z8,seval,hI,hlt,q0,q1,bf hh]
     rfl
    ·exact .inl ⟨rfl,by simp only[E8,seval]⟩
  ·apply oT (.exit 0)
   ·simp only[Z8,seval,hI,hlt]
    rfl
   ·exact .inr rfl
 case start=>exact⟨0,by simp only[E8,seval]<;>rfl,by omega,by omega⟩
 case rest =>
  rintro e st (⟨rfl,h⟩ | rfl)
  ·simp only[Z8,seval,h]
   exact⟨_,xtmp rfl (by simp only[E8,seval,h]<;>rfl) (by first | exact .v _ | simp only[FLb,h]),_,rfl⟩
  ·simp only[Z8,seval]
   exact⟨_,xtmp rfl (by simp only[E8,seval]<;>rfl) (by first | exact .v _ | simp only[FLb]),_,rfl⟩
theorem x103 (o p:Option (List Int)) (hn:((ol o).length:Int) < 1000000):∃ r,callL Tryz.prog 103 [ov csU64 o,ov csU64 p]=some r∧∃ b:Bool,r=.v (.bool b):=by
 rw[cL Tryz.func103 rfl ok103 (by cases o<;>cases p<;>rfl)]
 by_cases g:((ol o).length:Int)=((ol p).length:Int)
 case neg =>
  simp only[Z8,seval,bf g]
  exact⟨_,xtmp rfl (by simp only[E8,seval]<;>rfl) (by first | exact .v _ | simp only[FLb]),_,rfl⟩
 simp only[Z8,seval,bt g]
 refine use_loopX (fun m st=>∃ k:Nat,(st.env 0=ov csU64 o∧st.env 1=ov csU64 p∧st.env 5=.v (.int .i64 k))∧k≤(ol o).length∧m=(ol o).length - k)
  (fun e st=>(e=.ret∧st.env 4=.v (.bool false))∨e=.exit 0) (ol o).length ?step ?start ?rest
 case step =>
  rintro m st ⟨k,hI,hk,hm⟩
  by_cases hlt:(k:Int) < (ol o).length
  ·have q0:(0:Int)≤k:=by omega
   have q1:(k:Int) < ((ol p).length:Int):=by omega
   have hw:IntKind.i64.wrap ((k:Int)+1)=((k+1:Nat):Int):=by rw[w64 _ (by omega) (by omega)];omega
   by_cases hh:gx (0:Int) (ol o) (k:Int)=gx (0:Int) (ol p) (k:Int)
   ·apply oN ((ol o).length - (k+1))
    ·simp only[Z8,seval,hI,hlt,q0,q1,bt hh,hw]
     rfl
    ·exact⟨k+1,by simp only[E8,seval,hI],by omega,rfl⟩
   ·apply oT (.ret)
    ·simp only[Z8,seval,hI,hlt,q0,q1,bf hh]
     rfl
    ·exact .inl ⟨rfl,by simp only[E8,seval]⟩
  ·apply oT (.exit 0)
   ·simp only[Z8,seval,hI,hlt]
    rfl
   ·exact .inr rfl
 case start=>exact⟨0,by simp only[E8,seval]<;>rfl,by omega,by omega⟩
 case rest =>
  rintro e st (⟨rfl,h⟩ | rfl)
  ·simp only[Z8,seval,h]
   exact⟨_,xtmp rfl (by simp only[E8,seval,h]<;>rfl) (by first | exact .v _ | simp only[FLb,h]),_,rfl⟩
  ·simp only[Z8,seval]
   exact⟨_,xtmp rfl (by simp only[E8,seval]<;>rfl) (by first | exact .v _ | simp only[FLb]),_,rfl⟩
theorem x108 (a b:Att) (ha:AttOk a) (hb:AttOk b):∃ r,callL Tryz.prog 108 [.agg (cAtt a),.agg (cAtt b)]=some r∧∃ b:Bool,r=.v (.bool b):=by
 obtain⟨V,hV,nV⟩:=ha
 obtain⟨W,hW,nW⟩:=hb
 obtain⟨r1,e1,B,rfl⟩:=x105 V W nV
 have k105':=kx e1 (flat2 (flat_ovInt V) (flat_ovInt W)) (.v _)
 rw[cL Tryz.func108 rfl ok108 rfl]
 by_cases g1:a.slot=b.slot
 case neg =>
  simp only[Z8,seval,hV,hW,bf g1]
  exact⟨_,xtmp rfl (by simp only[E8,seval]<;>rfl) (by first | exact .v _ | simp only[FLb]),_,rfl⟩
 by_cases g2:a.root=b.root
 case neg =>
  simp only[Z8,seval,hV,hW,bt g1,g2]
  exact⟨_,xtmp rfl (by simp only[E8,seval]<;>rfl) (by first | exact .v _ | simp only[FLb]),_,rfl⟩
 by_cases g3:a.target=b.target
 case neg =>
  simp only[Z8,seval,hV,hW,bt g1,g2,g3]
  exact⟨_,xtmp rfl (by simp only[E8,seval]<;>rfl) (by first | exact .v _ | simp only[FLb]),_,rfl⟩
 simp only[Z8,seval,hV,hW,bt g1,g2,g3,k105']
 exact⟨_,xtmp rfl (by simp only[E8,seval]<;>rfl) (by first | exact .v _ | simp only[FLb]),_,rfl⟩
theorem x159 (a b:Table) (ha:TabOk a) (hb:TabOk b):∃ r,callL Tryz.prog 159 [.agg (cTable a),.agg (cTable b)]=some r∧∃ b:Bool,r=.v (.bool b):=by
 obtain⟨V,hV,nV⟩:=ha
 obtain⟨W,hW,nW⟩:=hb
 obtain⟨r1,e1,B,rfl⟩:=x103 V W nV
 have k103:=kx e1 (flat2 (flat_ovU64 V) (flat_ovU64 W)) (.v _)
 rw[cL Tryz.func159 rfl ok159 rfl]
 by_cases g1:a.ck=b.ck
 case neg =>
  simp only[Z8,seval,hV,hW,g1]
  exact⟨_,xtmp rfl (by simp only[E8,seval]<;>rfl) (by first | exact .v _ | simp only[FLb]),_,rfl⟩
 simp only[Z8,seval,hV,hW,g1,k103]
 exact⟨_,xtmp rfl (by simp only[E8,seval]<;>rfl) (by first | exact .v _ | simp only[FLb]),_,rfl⟩
def ClmOk (a:Claim):Prop:=∃ V:Option (List Int),a.vals=ov csInt V∧((ol V).length:Int)≤1000
theorem ClmOk.fl {a:Claim} (h:ClmOk a):Flat (.agg (cClaim a)):=by obtain⟨V,h,_⟩:=h;exact (fl_Claim a).2 (by rw[h];exact flat_ovInt V)
theorem x232 (a b:Claim) (ha:ClmOk a) (hb:ClmOk b):∃ r,callL Tryz.prog 232 [.agg (cClaim a),.agg (cClaim b)]=some r∧∃ b:Bool,r=.v (.bool b):=by
 obtain⟨V,hV,nV⟩:=ha
 obtain⟨W,hW,nW⟩:=hb
 obtain⟨r1,e1,B,rfl⟩:=x105 V W (by omega)
 have k105':=kx e1 (flat2 (flat_ovInt V) (flat_ovInt W)) (.v _)
 rw[cL Tryz.func232 rfl ok232 rfl]
 by_cases g1:a.source=b.source
 case neg =>
  simp only[Z8,seval,hV,hW,bf g1]
  exact⟨_,xtmp rfl (by simp only[E8,seval]<;>rfl) (by first | exact .v _ | simp only[FLb]),_,rfl⟩
 by_cases g2:a.target=b.target
 case neg =>
  simp only[Z8,seval,hV,hW,bt g1,bf g2]
  exact⟨_,xtmp rfl (by simp only[E8,seval]<;>rfl) (by first | exact .v _ | simp only[FLb]),_,rfl⟩
 by_cases g3:a.root=b.root
 case neg =>
  simp only[Z8,seval,hV,hW,bt g1,bt g2,g3]
  exact⟨_,xtmp rfl (by simp only[E8,seval]<;>rfl) (by first | exact .v _ | simp only[FLb]),_,rfl⟩
 simp only[Z8,seval,hV,hW,bt g1,bt g2,g3,k105']
 exact⟨_,xtmp rfl (by simp only[E8,seval]<;>rfl) (by first | exact .v _ | simp only[FLb]),_,rfl⟩
theorem x216 (a b:Slashing) (h1:ClmOk a.first) (h2:ClmOk a.second) (h3:ClmOk b.first) (h4:ClmOk b.second):∃ r,callL Tryz.prog 216 [.agg (cSlashing a),.agg (cSlashing b)]=some r∧∃ b:Bool,r=.v (.bool b):=by
 obtain⟨r1,e1,B1,rfl⟩:=x232 a.first b.first h1 h3
 obtain⟨r2,e2,B2,rfl⟩:=x232 a.second b.second h2 h4
 have k1:=kx e1 (flat2 h1.fl h3.fl) (.v _)
 have k2:=kx e2 (flat2 h2.fl h4.fl) (.v _)
 rw[cL Tryz.func216 rfl ok216 rfl]
 cases B1
 ·simp only[Z8,seval,k1]
  exact⟨_,xtmp rfl (by simp only[E8,seval]<;>rfl) (by first | exact .v _ | simp only[FLb]),_,rfl⟩
 ·simp only[Z8,seval,k1,k2]
  exact⟨_,xtmp rfl (by simp only[E8,seval]<;>rfl) (by first | exact .v _ | simp only[FLb]),_,rfl⟩
structure OpOk (x:OpS):Prop where
 att:∃ V:Option (List Int),x.att.vals=ov csInt V∧((ol V).length:Int)≤1000
 c1:ClmOk x.slash.first
 c2:ClmOk x.slash.second
 tab:∃ b:Option (List Int),x.table.bal=ov csU64 b∧((ol b).length:Int)≤1000∧∀ y∈ol b,Rg y
 rb:RB x.block
 ra:Rg x.att.slot∧Rg x.att.target.epoch
 rs:Rg x.slash.first.source∧Rg x.slash.first.target∧Rg x.slash.second.source∧Rg x.slash.second.target
 rt:Rg x.table.ck.epoch
 rv:Rg x.verdict.tagged.tag
theorem OpOk.attOk {x:OpS} (h:OpOk x):AttOk x.att:=by obtain⟨V,h1,h2⟩:=h.att;exact⟨V,h1,by omega⟩
theorem OpOk.tabOk {x:OpS} (h:OpOk x):TabOk x.table:=by obtain⟨V,h1,h2,_⟩:=h.tab;exact⟨V,h1,by omega⟩
theorem OpOk.fl {x:OpS} (h:OpOk x):Flat x.att.vals∧Flat x.slash.first.vals∧Flat x.slash.second.vals∧Flat x.table.bal:=by
 obtain⟨V,h1,_⟩:=h.att;obtain⟨V2,h2,_⟩:=h.c1;obtain⟨V3,h3,_⟩:=h.c2;obtain⟨V4,h4,_⟩:=h.tab
 rw[h1,h2,h3,h4];exact⟨flat_ovInt _,flat_ovInt _,flat_ovInt _,flat_ovU64 _⟩
theorem OpOk.flat {x:OpS} (h:OpOk x):Flat (.agg (cOpS x)):=(fl_OpS x).2 h.fl
theorem x201 (a b:OpS) (ha:OpOk a) (hb:OpOk b):∃ r,callL Tryz.prog 201 [.agg (cOpS a),.agg (cOpS b)]=some r∧∃ b:Bool,r=.v (.bool b):=by
 have fa:=ha.fl
 have fb:=hb.fl
 obtain⟨r1,e1,B1,rfl⟩:=x108 a.att b.att ha.attOk hb.attOk
 obtain⟨r2,e2,B2,rfl⟩:=x216 a.slash b.slash ha.c1 ha.c2 hb.c1 hb.c2
 obtain⟨r3,e3,B3,rfl⟩:=x159 a.table b.table ha.tabOk hb.tabOk
 have k1:=kx e1 (flat2 ((fl_Att _).2 fa.1) ((fl_Att _).2 fb.1)) (.v _)
 have k2:=kx e2 (flat2 ((fl_Slashing _).2 ⟨fa.2.1,fa.2.2.1⟩) ((fl_Slashing _).2 ⟨fb.2.1,fb.2.2.1⟩)) (.v _)
 have k3:=kx e3 (flat2 ((fl_Table _).2 fa.2.2.2) ((fl_Table _).2 fb.2.2.2)) (.v _)
 rw[cL Tryz.func201 rfl ok201 rfl]
 by_cases g1:a.kind=b.kind
 case neg =>
  simp only[Z8,seval,lapC,lapN,bf g1]
  exact⟨_,xtmp rfl (by simp only[E8,seval]<;>rfl) (by first | exact .v _ | simp only[FLb]),_,rfl⟩
 by_cases g2:a.block=b.block
 case neg =>
  simp only[Z8,seval,lapC,lapN,bt g1,g2]
  exact⟨_,xtmp rfl (by simp only[E8,seval]<;>rfl) (by first | exact .v _ | simp only[FLb]),_,rfl⟩
 cases B1
 ·simp only[Z8,seval,lapC,lapN,bt g1,g2,k1]
  exact⟨_,xtmp rfl (by simp only[E8,seval]<;>rfl) (by first | exact .v _ | simp only[FLb]),_,rfl⟩
 cases B2
 ·simp only[Z8,seval,lapC,lapN,bt g1,g2,k1,k2]
  exact⟨_,xtmp rfl (by simp only[E8,seval]<;>rfl) (by first | exact .v _ | simp only[FLb]),_,rfl⟩
 cases B3
 ·simp only[Z8,seval,lapC,lapN,bt g1,g2,k1,k2,k3]
  exact⟨_,xtmp rfl (by simp only[E8,seval]<;>rfl) (by first | exact .v _ | simp only[FLb]),_,rfl⟩
 by_cases g3:a.verdict=b.verdict
 case neg =>
  simp only[Z8,seval,lapC,lapN,bt g1,g2,k1,k2,k3,g3]
  exact⟨_,xtmp rfl (by simp only[E8,seval]<;>rfl) (by first | exact .v _ | simp only[FLb]),_,rfl⟩
 by_cases g4:a.write=b.write
 case neg =>
  simp only[Z8,seval,lapC,lapN,bt g1,g2,k1,k2,k3,g3,bf g4]
  exact⟨_,xtmp rfl (by simp only[E8,seval]<;>rfl) (by first | exact .v _ | simp only[FLb]),_,rfl⟩
 simp only[Z8,seval,lapC,lapN,bt g1,g2,k1,k2,k3,g3,bt g4]
 exact⟨_,xtmp rfl (by simp only[E8,seval]<;>rfl) (by first | exact .v _ | simp only[FLb]),_,rfl⟩
theorem ld26 (cs:List AV) (o:Nat) (h:32≤cs.length - o):ldAt Tryz.prog 26 cs o=some (.agg (rd cs o 32)):=by
 have e:ldInfo Tryz.prog 26=some (true,32):=by kernel_rfl
 unfold ldAt
 simp only[e]
 rw[if_pos ⟨by omega,h⟩]
theorem lk26:ldK Tryz.prog 26=some 32:=by kernel_rfl
theorem ze26:zeroL Tryz.prog 26=some vRoot:=by kernel_rfl
theorem ar26:arrInfo Tryz.prog 26=some (32,1):=by kernel_rfl
theorem sl26n:slInfo Tryz.prog 26=none:=by kernel_rfl
theorem arr26 (st:St) (s g o:Nat):sliceA Tryz.prog st 26 (.ptr s g o) none none=some (.vw s g o 32):=by
 simp only[sliceA,sl26n,ar26]
theorem idx26a (st:St) (x:AV) {k:IntKind} {i:Int} (h0:0≤i) (h1:i < 32):indexAddrA Tryz.prog st 26 x (.v (.int k i))=addOff x (i.toNat * 1):=idx_arr ar26 st x h0 h1
theorem u64_nn (x:Int):(IntKind.u64.wrap x < 0)=False:=by
 refine eq_false ?_
 unfold IntKind.wrap
 simp[IntKind.signed,IntKind.bits]
 omega
theorem x246 (w:Wide):∃ r:Root,callL Tryz.prog 246 [.agg (cWide w)]=some (.agg (cRoot r)):=by
 suffices h:∃ x,callL Tryz.prog 246 [.agg (cWide w)]=some x∧∃ r:Root,x=.agg (cRoot r) by
  obtain⟨x,h,r,rfl⟩:=h;exact⟨r,h⟩
 rw[cL Tryz.func246 rfl ok246 rfl]
 simp only[Z8,seval,ze26]
 refine use_loopX (fun m st=>∃ (k:Nat) (r:Root),(st.env 1=.ptr 1 0 0∧st.heap 1 0=some (.cells (cWide w))∧st.env 3=.ptr 3 0 0∧st.heap 3 0=some (.cells (cRoot r))∧st.env 2=.ptr 2 0 0∧st.heap 2 0=some (.cells (cRoot zRoot))∧st.env 4=.v (.int .i64 k))∧k≤32∧m=32 - k)
  (fun e st=>e=.exit 0∧∃ r:Root,st.env 3=.ptr 3 0 0∧st.heap 3 0=some (.cells (cRoot r))∧st.env 2=.ptr 2 0 0∧st.heap 2 0=some (.cells (cRoot zRoot))) 32 ?step ?start ?rest
 case step =>
  rintro m st ⟨k,r,hI,hk,hm⟩
  by_cases hlt:(k:Int) < 32
  ·have q0:(0:Int)≤k:=by omega
   have hw:IntKind.i64.wrap ((k:Int)+1)=((k+1:Nat):Int):=by rw[w64 _ (by omega) (by omega)];omega
   obtain⟨i,hi⟩:∃ i:Int,i=31 - (k:Int):=⟨_,rfl⟩
   have hi1:IntKind.i64.wrap (31 - (k:Int))=i:=by rw[w64 _ (by omega) (by omega),hi]
   have i0:0≤i:=by omega
   have i1:i < 32:=by omega
   have hj:IntKind.i64.wrap ((k:Int).tdiv 8)=(k:Int) / 8:=by rw[Int.tdiv_eq_ediv_of_nonneg q0,w64 _ (by omega) (by omega)]
   have j0:0≤(k:Int) / 8:=by omega
   have j1:(k:Int) / 8 < 4:=by omega
   have i31:i.toNat≤31:=by omega
   have gw:=get_cWide w j0 j1
   have hup:=fun x=>up_Root_at r i.toNat (i.toNat+1) x (by omega) rfl
   apply oN (32 - (k+1))
   ·simp only[Z8,seval,hI,hlt,q0,hi1,i0,i1,hj,j0,j1,idx33a,idx26a,gw,i31,hup,u64_nn,Nat.mul_one,hw]
    rfl
   ·exact⟨k+1,_,by simp only[E8,seval,hI]<;>rfl,by omega,rfl⟩
  ·apply oT (.exit 0)
   ·simp only[Z8,seval,hI,hlt]
    rfl
   ·exact⟨rfl,r,by simp only[E8,seval,hI]⟩
 case start=>exact⟨0,zRoot,by simp only[E8,seval]<;>rfl,by omega,by omega⟩
 case rest =>
  rintro e st ⟨rfl,r,hI⟩
  simp only[Z8,seval,hI,ld26,lk26]
  exact⟨_,xcell rfl (by simp only[E8,seval,hI,ld26,lk26]<;>rfl) (by simp only[Z8,seval,hI,ld26,lk26]<;>rfl) (by simp only[FLb,and_self,hI,ld26,lk26]),r,rfl⟩
theorem k246 (w:Wide):∃ r:Root,∀ (st:St) (d:Option Nat),callFn (callL Tryz.prog) 246 [.agg (cWide w)] st d=some { dst:=d,val:=.agg (cRoot r)}:=by
 obtain⟨r,h⟩:=x246 w
 exact⟨r,kx h (flat1 (.agg _ (flat_cWide w))) (flatR r)⟩
theorem w227 (x:Wide):Wr 227 [.agg (cWide x)] 32:=by
 intro l hl
 suffices h:∃ r,callL Tryz.prog 227 [.uniq 5 1 l.length (csU8 l),.agg (cWide x)]=some r∧∃ m:List Int,r=.uniq 5 1 m.length (csU8 m)∧(m.length:Int)≤l.length+32 by
  obtain⟨r,h,m,rfl,h2⟩:=h;exact⟨m,h,h2⟩
 have hn1:(l.length:Int) < 1000000:=by omega
 obtain⟨r,kr⟩:=k246 x
 have hr:(r.toList.length:Int) < 1000000:=by simp
 rw[callM_f Tryz.prog Tryz.func227 rfl ok227 _ _ _ _ _ (ext_none _ _)]
 simp only[Z8,seval,initM_env0,initM_env,initM_heap,initM_cnt0,initM_cnt,kr,ze26,lk26,arr26,view32 _ _ _ r,aooU8s _ _ _ _ hn1 hr]
 exact⟨_,endM_tmp (.inl rfl) rfl (by simp only[E8,seval]<;>rfl) (by simp only[E8,seval]<;>rfl) (mem_csU8 _),_,rfl,by rw[List.length_append];simp⟩
theorem w229 (b:Bool):Wr 229 [.v (.bool b)] 1:=by
 intro l hl
 suffices h:∃ r,callL Tryz.prog 229 [.uniq 5 1 l.length (csU8 l),.v (.bool b)]=some r∧∃ m:List Int,r=.uniq 5 1 m.length (csU8 m)∧(m.length:Int)≤l.length+1 by
  obtain⟨r,h,m,rfl,h2⟩:=h;exact⟨m,h,h2⟩
 have hn1:(l.length:Int) < 1000000:=by omega
 rw[callM_f Tryz.prog Tryz.func229 rfl ok229 _ _ _ _ _ (ext_none _ _)]
 cases b
 all_goals
  simp only[Z8,seval,initM_env0,initM_env,initM_heap,initM_cnt0,initM_cnt,aooU81 _ _ _ _ hn1]
  exact⟨_,endM_tmp (.inl rfl) rfl (by simp only[E8,seval]<;>rfl) (by simp only[E8,seval]<;>rfl) (mem_csU8 _),_,rfl,by rw[List.length_append,List.length_cons,List.length_nil];omega⟩
theorem u64_Rg (x:Int):Rg (IntKind.u64.wrap x):=by
 unfold Rg IntKind.wrap
 simp[IntKind.signed,IntKind.bits]
 omega
theorem w230 (V:Option (List Int)) (nV:((ol V).length:Int)≤1000):Wr 230 [ov csInt V] 10010:=by
 intro l hl
 suffices h:∃ r,callL Tryz.prog 230 [.uniq 5 1 l.length (csU8 l),ov csInt V]=some r∧∃ m:List Int,r=.uniq 5 1 m.length (csU8 m)∧(m.length:Int)≤l.length+10010 by
  obtain⟨r,h,m,rfl,h2⟩:=h;exact⟨m,h,h2⟩
 obtain⟨m1,e1,b1⟩:=(w215 _ (u64_Rg ((ol V).length:Int))).at (flat1 (.v _)) (l:=l) (by omega)
 rw[callM_f Tryz.prog Tryz.func230 rfl ok230 _ _ _ _ _ (ext_none _ _)]
 simp only[Z8,seval,initM_env0,initM_env,initM_heap,initM_cnt0,initM_cnt,e1]
 refine use_loopX (fun m st=>∃ (k:Nat) (p:List Int) (a g:Nat),(st.env 0=.own a g∧st.heap a g=some (.row 5 1 p.length (csU8 p))∧st.env 1=ov csInt V∧st.env 5=.v (.int .i64 k))∧((a=10∧g < st.cnt 10)∨(a=24∧g < st.cnt 24)∨(a=38∧g < st.cnt 38))∧(p.length:Int)≤l.length+10+10 * k∧k≤(ol V).length∧m=(ol V).length - k)
  (fun e st=>e=.exit 0∧∃ (p:List Int) (a g:Nat),(st.env 0=.own a g∧st.heap a g=some (.row 5 1 p.length (csU8 p)))∧(p.length:Int)≤l.length+10010) (ol V).length ?step ?start ?rest
 case step =>
  rintro m st ⟨k,p,a,g,hI,hag,hp,hk,hm⟩
  by_cases hlt:(k:Int) < (ol V).length
  ·have q0:(0:Int)≤k:=by omega
   have hw:IntKind.i64.wrap ((k:Int)+1)=((k+1:Nat):Int):=by rw[w64 _ (by omega) (by omega)];omega
   have fin:∀ (p':List Int),(p'.length:Int)≤p.length+10→(p'.length:Int)≤l.length+10+10 * ((k+1:Nat):Int):=fun p' h=>by omega
   by_cases h1:(k:Int)=0
   ·have z0:(0:Int) < ((ol V).length:Int):=by omega
    have z1:(0:Int)≤0:=by omega
    obtain⟨p',e2,b2⟩:=(w215 _ (u64_Rg (gx (0:Int) (ol V) (0:Int)))).at (flat1 (.v _)) (l:=p) (by omega)
    rcases hag with ⟨rfl,hg⟩ | ⟨rfl,hg⟩ | ⟨rfl,hg⟩
    ·apply oN ((ol V).length - (k+1))
     ·simp only[Z8,seval,hI,hlt,q0,bt h1,z0,z1,e2,hw]
      rfl
     ·exact⟨k+1,p',_,_,⟨by simp only[E8,seval]<;>rfl,by simp only[E8,seval]<;>rfl,by simp only[E8,seval,hI],by simp only[E8,seval]⟩,.inr (.inl ⟨rfl,by simp only[E8,seval]<;>omega⟩),fin p' b2,by omega,rfl⟩
    ·have hgn:(g=st.cnt 24)=False:=eq_false (by omega)
     apply oN ((ol V).length - (k+1))
     ·simp only[Z8,seval,hI,hgn,hlt,q0,bt h1,z0,z1,e2,hw]
      rfl
     ·exact⟨k+1,p',_,_,⟨by simp only[E8,seval]<;>rfl,by simp only[E8,seval]<;>rfl,by simp only[E8,seval,hI],by simp only[E8,seval]⟩,.inr (.inl ⟨rfl,by simp only[E8,seval]<;>omega⟩),fin p' b2,by omega,rfl⟩
    ·apply oN ((ol V).length - (k+1))
     ·simp only[Z8,seval,hI,hlt,q0,bt h1,z0,z1,e2,hw]
      rfl
     ·exact⟨k+1,p',_,_,⟨by simp only[E8,seval]<;>rfl,by simp only[E8,seval]<;>rfl,by simp only[E8,seval,hI],by simp only[E8,seval]⟩,.inr (.inl ⟨rfl,by simp only[E8,seval]<;>omega⟩),fin p' b2,by omega,rfl⟩
   ·have hw1:IntKind.i64.wrap ((k:Int) - 1)=(k:Int) - 1:=w64 _ (by omega) (by omega)
    have y0:(0:Int)≤(k:Int) - 1:=by omega
    have y1:(k:Int) - 1 < ((ol V).length:Int):=by omega
    obtain⟨p',e2,b2⟩:=(w215 _ (u64_Rg (IntKind.i64.wrap (IntKind.i64.wrap (gx (0:Int) (ol V) (k:Int) - gx (0:Int) (ol V) ((k:Int) - 1)) - 1)))).at (flat1 (.v _)) (l:=p) (by omega)
    rcases hag with ⟨rfl,hg⟩ | ⟨rfl,hg⟩ | ⟨rfl,hg⟩
    ·apply oN ((ol V).length - (k+1))
     ·simp only[Z8,seval,hI,hlt,q0,bf h1,hw1,y0,y1,e2,hw]
      rfl
     ·exact⟨k+1,p',_,_,⟨by simp only[E8,seval]<;>rfl,by simp only[E8,seval]<;>rfl,by simp only[E8,seval,hI],by simp only[E8,seval]⟩,.inr (.inr ⟨rfl,by simp only[E8,seval]<;>omega⟩),fin p' b2,by omega,rfl⟩
    ·apply oN ((ol V).length - (k+1))
     ·simp only[Z8,seval,hI,hlt,q0,bf h1,hw1,y0,y1,e2,hw]
      rfl
     ·exact⟨k+1,p',_,_,⟨by simp only[E8,seval]<;>rfl,by simp only[E8,seval]<;>rfl,by simp only[E8,seval,hI],by simp only[E8,seval]⟩,.inr (.inr ⟨rfl,by simp only[E8,seval]<;>omega⟩),fin p' b2,by omega,rfl⟩
    ·have hgn:(g=st.cnt 38)=False:=eq_false (by omega)
     apply oN ((ol V).length - (k+1))
     ·simp only[Z8,seval,hI,hgn,hlt,q0,bf h1,hw1,y0,y1,e2,hw]
      rfl
     ·exact⟨k+1,p',_,_,⟨by simp only[E8,seval]<;>rfl,by simp only[E8,seval]<;>rfl,by simp only[E8,seval,hI],by simp only[E8,seval]⟩,.inr (.inr ⟨rfl,by simp only[E8,seval]<;>omega⟩),fin p' b2,by omega,rfl⟩
  ·apply oT (.exit 0)
   ·simp only[Z8,seval,hI,hlt]
    rfl
   ·exact⟨rfl,p,a,g,by simp only[E8,seval,hI],by omega⟩
 case start=>exact⟨0,m1,10,0,by and_intros<;>(simp only[E8,seval,initM_env0,initM_env,initM_heap,initM_cnt0,initM_cnt]<;>rfl),.inl ⟨rfl,by simp only[E8,seval,initM_env0,initM_env,initM_heap,initM_cnt0,initM_cnt]<;>omega⟩,by omega,by omega,by omega⟩
 case rest =>
  rintro e st ⟨rfl,p,a,g,hI,hp⟩
  simp only[Z8,seval,hI]
  exact⟨_,endM_tmp (.inl rfl) rfl (by simp only[E8,seval]<;>rfl) (by simp only[E8,seval,hI]<;>rfl) (mem_csU8 _),_,rfl,hp⟩
theorem w231 (c:Claim) (V:Option (List Int)) (hV:c.vals=ov csInt V) (nV:((ol V).length:Int)≤1000) (h1:Rg c.source) (h2:Rg c.target):Wr 231 [.agg (cClaim c)] 10100:=by
 intro l hl
 suffices h:∃ r,callL Tryz.prog 231 [.uniq 5 1 l.length (csU8 l),.agg (cClaim c)]=some r∧∃ m:List Int,r=.uniq 5 1 m.length (csU8 m)∧(m.length:Int)≤l.length+10100 by
  obtain⟨r,h,m,rfl,h2⟩:=h;exact⟨m,h,h2⟩
 obtain⟨m1,e1,b1⟩:=(w215 c.source h1).at (flat1 (.v _)) (l:=l) (by omega)
 obtain⟨m2,e2,b2⟩:=(w215 c.target h2).at (flat1 (.v _)) (l:=m1) (by omega)
 obtain⟨m3,e3,b3⟩:=(w226 c.root).at (flat1 (flatR _)) (l:=m2) (by omega)
 obtain⟨m4,e4,b4⟩:=(w230 V nV).at (flat1 (flat_ovInt V)) (l:=m3) (by omega)
 rw[callM_t Tryz.prog Tryz.func231 rfl ok231 (by kernel_rfl) _ _ _ _ _ (ext_none _ _)]
 simp only[ZG,seval,Bool.false_and,Prod.mk.injEq,DY231,initM_env0,initM_env,initM_heap,initM_cnt0,initM_cnt,e1,e2,e3,e4,hV,fa_oO,fa_Oo,fa_pO,fa_Op]
 exact⟨_,endM_tmp (.inl rfl) rfl (by simp only[E8,seval]<;>rfl) (by simp only[E8,seval]<;>rfl) (mem_csU8 _),_,rfl,by omega⟩
theorem n231 (c:Claim) (V:Option (List Int)) (hV:c.vals=ov csInt V) (nV:((ol V).length:Int)≤1000) (h1:Rg c.source) (h2:Rg c.target):WrN 231 [.agg (cClaim c)] 10100:=by
 suffices h:∃ r,callL Tryz.prog 231 [.v (.slice none 0 0),.agg (cClaim c)]=some r∧∃ m:List Int,r=.uniq 5 1 m.length (csU8 m)∧(m.length:Int)≤10100 by
  obtain⟨r,h,m,rfl,h2⟩:=h;exact⟨m,h,h2⟩
 obtain⟨m1,e1,b1⟩:=(n215 c.source h1).at (flat1 (.v _))
 obtain⟨m2,e2,b2⟩:=(w215 c.target h2).at (flat1 (.v _)) (l:=m1) (by omega)
 obtain⟨m3,e3,b3⟩:=(w226 c.root).at (flat1 (flatR _)) (l:=m2) (by omega)
 obtain⟨m4,e4,b4⟩:=(w230 V nV).at (flat1 (flat_ovInt V)) (l:=m3) (by omega)
 rw[cG Tryz.func231 rfl ok231 (by kernel_rfl) rfl]
 simp only[ZG,seval,Bool.false_and,Prod.mk.injEq,DY231,e1,e2,e3,e4,hV,fa_oO,fa_Oo,fa_pO,fa_Op]
 exact⟨_,xrow rfl (by simp only[E8,seval]<;>rfl) (by simp only[E8,seval]<;>rfl) (flat_csU8 _),_,rfl,by omega⟩
theorem n210 (x:Block) (h:RB x):WrN 210 [.agg (cBlock x)] 400:=by
 suffices h:∃ r,callL Tryz.prog 210 [.v (.slice none 0 0),.agg (cBlock x)]=some r∧∃ m:List Int,r=.uniq 5 1 m.length (csU8 m)∧(m.length:Int)≤400 by
  obtain⟨r,h,m,rfl,h2⟩:=h;exact⟨m,h,h2⟩
 obtain⟨m1,e1,b1⟩:=(n215 x.slot h.sl).at (flat1 (.v _))
 obtain⟨m2,e2,b2⟩:=(w226 x.root).at (flat1 (flatR _)) (l:=m1) (by omega)
 obtain⟨m3,e3,b3⟩:=(w226 x.parent).at (flat1 (flatR _)) (l:=m2) (by omega)
 obtain⟨m4,e4,b4⟩:=(w226 x.payload).at (flat1 (flatR _)) (l:=m3) (by omega)
 obtain⟨m5,e5,b5⟩:=(w227 x.diff).at (flat1 (.agg _ (flat_cWide _))) (l:=m4) (by omega)
 obtain⟨m6,e6,b6⟩:=(w227 x.pdiff).at (flat1 (.agg _ (flat_cWide _))) (l:=m5) (by omega)
 obtain⟨m7,e7,b7⟩:=(w228 x.just h.j).at (flat1 (.agg _ (flat_cCkpt _))) (l:=m6) (by omega)
 obtain⟨m8,e8,b8⟩:=(w228 x.fin h.f).at (flat1 (.agg _ (flat_cCkpt _))) (l:=m7) (by omega)
 obtain⟨m9,e9,b9⟩:=(w228 x.pulled.pj h.pj).at (flat1 (.agg _ (flat_cCkpt _))) (l:=m8) (by omega)
 obtain⟨m10,e10,b10⟩:=(w228 x.pulled.pf h.pf).at (flat1 (.agg _ (flat_cCkpt _))) (l:=m9) (by omega)
 obtain⟨m11,e11,b11⟩:=(w229 x.timely).at (flat1 (.v _)) (l:=m10) (by omega)
 rw[cG Tryz.func210 rfl ok210 (by kernel_rfl) rfl]
 simp only[ZG,seval,Bool.false_and,Prod.mk.injEq,DY210,e1,e2,e3,e4,e5,e6,e7,e8,e9,e10,e11]
 exact⟨_,xrow rfl (by simp only[E8,seval]<;>rfl) (by simp only[E8,seval]<;>rfl) (flat_csU8 _),_,rfl,by omega⟩
def EncR (r:AV):Prop:=∃ (o:Option (List Int)) (e:Int),r=.tup [ov csU8 o,.v (.int .i64 e)]
theorem EncR.none (e:Int):EncR (.tup [.v (.slice none 0 0),.v (.int .i64 e)]):=⟨Option.none,e,rfl⟩
theorem EncR.some (l:List Int) (e:Int):EncR (.tup [.sl l.length (csU8 l),.v (.int .i64 e)]):=⟨Option.some l,e,rfl⟩
theorem x211 (a:Att) (V:Option (List Int)) (hV:a.vals=ov csInt V) (nV:((ol V).length:Int)≤1000) (h1:Rg a.slot) (h2:Rg a.target.epoch):∃ r,callL Tryz.prog 211 [.agg (cAtt a)]=some r∧EncR r:=by
 have k40:=kx (c40 V (by omega) 1024) (flat2 (flat_ovInt V) (.v _)) (.v _)
 obtain⟨e,he⟩:∃ e,vlV (ol V) 1024=e:=⟨_,rfl⟩
 rw[he] at k40
 obtain⟨m1,e1,b1⟩:=(n215 a.slot h1).at (flat1 (.v _))
 obtain⟨m2,e2,b2⟩:=(w226 a.root).at (flat1 (flatR _)) (l:=m1) (by omega)
 obtain⟨m3,e3,b3⟩:=(w228 a.target h2).at (flat1 (.agg _ (flat_cCkpt _))) (l:=m2) (by omega)
 obtain⟨m4,e4,b4⟩:=(w230 V nV).at (flat1 (flat_ovInt V)) (l:=m3) (by omega)
 rw[cG Tryz.func211 rfl ok211 (by kernel_rfl) rfl]
 by_cases g:e=0
 ·simp only[ZG,seval,Bool.false_and,Prod.mk.injEq,DY211,hV,k40,bt g,e1,e2,e3,e4,fa_oO,fa_Oo,fa_pO,fa_Op]
  exact⟨_,xtwo rfl rfl rfl (by simp only[E8,seval,exFU8]<;>rfl) (by simp only[E8,seval,exFU8]<;>rfl),EncR.some _ _⟩
 ·simp only[ZG,seval,Bool.false_and,Prod.mk.injEq,DY211,hV,k40,bf g]
  exact⟨_,xtwo rfl rfl rfl (by simp only[E8,seval]<;>rfl) (by simp only[E8,seval]<;>rfl),EncR.none _⟩
theorem x212 (a:Slashing) (h1:ClmOk a.first) (h2:ClmOk a.second) (r1:Rg a.first.source) (r2:Rg a.first.target) (r3:Rg a.second.source) (r4:Rg a.second.target):∃ r,callL Tryz.prog 212 [.agg (cSlashing a)]=some r∧EncR r:=by
 obtain⟨V,hV,nV⟩:=id h1
 obtain⟨W,hW,nW⟩:=id h2
 have kV:=kx (c40 V (by omega) 1024) (flat2 (flat_ovInt V) (.v _)) (.v _)
 have kW:=kx (c40 W (by omega) 1024) (flat2 (flat_ovInt W) (.v _)) (.v _)
 obtain⟨ev,hev⟩:∃ e,vlV (ol V) 1024=e:=⟨_,rfl⟩
 obtain⟨ew,hew⟩:∃ e,vlV (ol W) 1024=e:=⟨_,rfl⟩
 rw[hev] at kV
 rw[hew] at kW
 obtain⟨m1,e1,b1⟩:=(n231 a.first V hV nV r1 r2).at (flat1 h1.fl)
 obtain⟨m2,e2,b2⟩:=(w231 a.second W hW nW r3 r4).at (flat1 h2.fl) (l:=m1) (by omega)
 rw[cL Tryz.func212 rfl ok212 rfl]
 by_cases g1:ev=0
 case neg =>
  simp only[Z8,seval,hV,hW,kV,bf g1]
  exact⟨_,xtwo rfl rfl rfl (by simp only[E8,seval]<;>rfl) (by simp only[E8,seval]<;>rfl),EncR.none _⟩
 by_cases g2:ew=0
 case neg =>
  simp only[Z8,seval,hV,hW,kV,kW,bt g1,bf g2]
  exact⟨_,xtwo rfl rfl rfl (by simp only[E8,seval]<;>rfl) (by simp only[E8,seval]<;>rfl),EncR.none _⟩
 simp only[Z8,seval,hV,hW,kV,kW,bt g1,bt g2,e1,e2]
 exact⟨_,xtwo rfl rfl rfl (by simp only[E8,seval,exFU8]<;>rfl) (by simp only[E8,seval,exFU8]<;>rfl),EncR.some _ _⟩
theorem x213 (t:Table) (b:Option (List Int)) (hb:t.bal=ov csU64 b) (nb:((ol b).length:Int)≤1000) (rb:∀ y∈ol b,Rg y) (rt:Rg t.ck.epoch):∃ r,callL Tryz.prog 213 [.agg (cTable t)]=some r∧EncR r:=by
 have hfT:Flat (.agg (cTable t)):=(fl_Table t).2 (by rw[hb];exact flat_ovU64 b)
 obtain⟨m1,e1,b1⟩:=(n215 t.ck.epoch rt).at (flat1 (.v _))
 obtain⟨m2,e2,b2⟩:=(w226 t.ck.root).at (flat1 (flatR _)) (l:=m1) (by omega)
 obtain⟨m3,e3,b3⟩:=(w215 _ (u64_Rg ((ol b).length:Int))).at (flat1 (.v _)) (l:=m2) (by omega)
 rw[cG Tryz.func213 rfl ok213 (by kernel_rfl) rfl]
 have g1:¬ (1024:Int) < ((ol b).length:Int):=by omega
 simp only[ZG,seval,Bool.false_and,Prod.mk.injEq,DY213,hb,g1,e1,e2,e3,fa_oO,fa_Oo,fa_pO,fa_Op]
 refine use_loopG (fun m st=>∃ (k:Nat) (p:List Int) (a g:Nat),(st.env 1=.ptr 1 0 0∧st.heap 1 0=some (.cells (cTable t))∧st.env 4=.own a g∧st.heap a g=some (.row 5 1 p.length (csU8 p))∧st.env 5=.v (.int .i64 k))∧((a=22∧g=0)∨(a=36∧g < st.cnt 36))∧(p.length:Int)≤100+10 * k∧k≤(ol b).length∧m=(ol b).length - k)
  (fun e st=>e=.exit 0∧∃ (p:List Int) (a g:Nat),st.env 4=.own a g∧st.heap a g=some (.row 5 1 p.length (csU8 p))) (ol b).length ?step ?start ?rest
 case step =>
  rintro m st ⟨k,p,a,g,hI,hag,hp,hk,hm⟩
  by_cases hlt:(k:Int) < (ol b).length
  ·have q0:(0:Int)≤k:=by omega
   have hw:IntKind.i64.wrap ((k:Int)+1)=((k+1:Nat):Int):=by rw[w64 _ (by omega) (by omega)];omega
   obtain⟨p',e4,b4⟩:=(w215 _ (rb _ (gx_mem (z:=(0:Int)) q0 hlt))).at (flat1 (.v _)) (l:=p) (by omega)
   rcases hag with ⟨rfl,rfl⟩ | ⟨rfl,hg⟩
   ·apply oNG ((ol b).length - (k+1))
    ·simp only[ZG,seval,Bool.false_and,Prod.mk.injEq,DY213,hI,hlt,q0,hb,e4,hw]
     rfl
    ·exact⟨k+1,p',36,_,⟨by simp only[E8,seval,hI],by simp only[E8,seval,hI],by simp only[E8,seval]<;>rfl,by simp only[E8,seval]<;>rfl,by simp only[E8,seval]⟩,.inr ⟨rfl,by simp only[E8,seval]<;>omega⟩,by omega,by omega,rfl⟩
   ·have hgn:(g=st.cnt 36)=False:=eq_false (by omega)
    apply oNG ((ol b).length - (k+1))
    ·simp only[ZG,seval,Bool.false_and,Prod.mk.injEq,DY213,hI,hgn,hlt,q0,hb,e4,hw]
     rfl
    ·exact⟨k+1,p',36,_,⟨by simp only[E8,seval,hI],by simp only[E8,seval,hI],by simp only[E8,seval]<;>rfl,by simp only[E8,seval]<;>rfl,by simp only[E8,seval]⟩,.inr ⟨rfl,by simp only[E8,seval]<;>omega⟩,by omega,by omega,rfl⟩
  ·apply oTG (.exit 0)
   ·simp only[ZG,seval,Bool.false_and,Prod.mk.injEq,DY213,hI,hlt,hb]
    rfl
   ·exact⟨rfl,p,a,g,by simp only[E8,seval,hI],by simp only[E8,seval,hI]⟩
 case start=>exact⟨0,m3,22,0,by and_intros<;>(simp only[E8,seval]<;>rfl),.inl ⟨rfl,rfl⟩,by omega,by omega,by omega⟩
 case rest =>
  rintro e st ⟨rfl,p,a,g,h4,hh⟩
  simp only[ZG,seval,Bool.false_and,Prod.mk.injEq,DY213,h4,hh]
  exact⟨_,xtwo rfl rfl rfl (by simp only[E8,seval,h4,hh,exFU8]<;>rfl) (by simp only[E8,seval,h4,hh,exFU8]<;>rfl),EncR.some _ _⟩
theorem x214 (v:Verdict) (h:Rg v.tagged.tag):∃ r,callL Tryz.prog 214 [.agg (cVerdict v)]=some r∧EncR r:=by
 obtain⟨m1,e1,b1⟩:=(n215 v.tagged.tag h).at (flat1 (.v _))
 obtain⟨m2,e2,b2⟩:=(w215 _ (u64_Rg v.kind)).at (flat1 (.v _)) (l:=m1) (by omega)
 obtain⟨m3,e3,b3⟩:=(w226 v.latest).at (flat1 (flatR _)) (l:=m2) (by omega)
 rw[cG Tryz.func214 rfl ok214 (by kernel_rfl) rfl]
 by_cases g1:v.kind < 1
 ·simp only[ZG,seval,Bool.false_and,Prod.mk.injEq,DY214,g1]
  exact⟨_,xtwo rfl rfl rfl (by simp only[E8,seval]<;>rfl) (by simp only[E8,seval]<;>rfl),EncR.none _⟩
 by_cases g2:4 < v.kind
 ·simp only[ZG,seval,Bool.false_and,Prod.mk.injEq,DY214,g1,g2]
  exact⟨_,xtwo rfl rfl rfl (by simp only[E8,seval]<;>rfl) (by simp only[E8,seval]<;>rfl),EncR.none _⟩
 simp only[ZG,seval,Bool.false_and,Prod.mk.injEq,DY214,g1,g2,e1,e2,e3]
 exact⟨_,xtwo rfl rfl rfl (by simp only[E8,seval,exFU8]<;>rfl) (by simp only[E8,seval,exFU8]<;>rfl),EncR.some _ _⟩
theorem x200 (x:OpS) (h:OpOk x):∃ r,callL Tryz.prog 200 [.agg (cOpS x)]=some r∧EncR r:=by
 have hfl:=h.fl
 obtain⟨V,hV,nV⟩:=h.att
 obtain⟨b,hb,nb,rb⟩:=h.tab
 obtain⟨m1,e1,b1⟩:=(n210 x.block h.rb).at (flat1 (flatB _))
 obtain⟨r2,e2,o2,f2,rfl⟩:=x211 x.att V hV nV h.ra.1 h.ra.2
 obtain⟨r3,e3,o3,f3,rfl⟩:=x212 x.slash h.c1 h.c2 h.rs.1 h.rs.2.1 h.rs.2.2.1 h.rs.2.2.2
 obtain⟨r4,e4,o4,f4,rfl⟩:=x213 x.table b hb nb rb h.rt
 obtain⟨r5,e5,o5,f5,rfl⟩:=x214 x.verdict h.rv
 have k2:=kx e2 (flat1 ((fl_Att _).2 hfl.1)) (.tup _ (flat2 (flat_ovU8 _) (.v _)))
 have k3:=kx e3 (flat1 ((fl_Slashing _).2 ⟨hfl.2.1,hfl.2.2.1⟩)) (.tup _ (flat2 (flat_ovU8 _) (.v _)))
 have k4:=kx e4 (flat1 ((fl_Table _).2 hfl.2.2.2)) (.tup _ (flat2 (flat_ovU8 _) (.v _)))
 have k5:=kx e5 (flat1 (.agg _ (flat_cVerdict _))) (.tup _ (flat2 (flat_ovU8 _) (.v _)))
 obtain⟨m6,e6,b6⟩:=(n215 _ (u64_Rg x.write)).at (flat1 (.v _))
 obtain⟨m7,e7,b7⟩:=(w215 _ (u64_Rg x.keep)).at (flat1 (.v _)) (l:=m6) (by omega)
 rw[cL Tryz.func200 rfl ok200 rfl]
 by_cases g2:x.kind=2
 ·simp only[Z8,seval,bt g2,e1]
  exact⟨_,xtwo rfl rfl rfl (by simp only[E8,seval,exFU8]<;>rfl) (by simp only[E8,seval,exFU8]<;>rfl),EncR.some _ _⟩
 by_cases g3:x.kind=3
 ·simp only[Z8,seval,bf g2,bt g3,k2,extA]
  exact⟨_,xtwo rfl rfl rfl (by simp only[E8,seval,expo_ovU8]<;>rfl) (by simp only[E8,seval,expo_ovU8]<;>rfl),_,_,rfl⟩
 by_cases g4:x.kind=4
 ·simp only[Z8,seval,bf g2,bf g3,bt g4,k3,extA]
  exact⟨_,xtwo rfl rfl rfl (by simp only[E8,seval,expo_ovU8]<;>rfl) (by simp only[E8,seval,expo_ovU8]<;>rfl),_,_,rfl⟩
 by_cases g5:x.kind=5
 ·simp only[Z8,seval,bf g2,bf g3,bf g4,bt g5,k4,extA]
  exact⟨_,xtwo rfl rfl rfl (by simp only[E8,seval,expo_ovU8]<;>rfl) (by simp only[E8,seval,expo_ovU8]<;>rfl),_,_,rfl⟩
 by_cases g6:x.kind=6
 ·simp only[Z8,seval,bf g2,bf g3,bf g4,bf g5,bt g6,k5,extA]
  exact⟨_,xtwo rfl rfl rfl (by simp only[E8,seval,expo_ovU8]<;>rfl) (by simp only[E8,seval,expo_ovU8]<;>rfl),_,_,rfl⟩
 by_cases g8:x.kind=8
 case neg =>
  simp only[Z8,seval,bf g2,bf g3,bf g4,bf g5,bf g6,bf g8]
  exact⟨_,xtwo rfl rfl rfl (by simp only[E8,seval]<;>rfl) (by simp only[E8,seval]<;>rfl),EncR.none _⟩
 by_cases w1:x.write < 0
 ·simp only[Z8,seval,bf g2,bf g3,bf g4,bf g5,bf g6,bt g8,w1]
  exact⟨_,xtwo rfl rfl rfl (by simp only[E8,seval]<;>rfl) (by simp only[E8,seval]<;>rfl),EncR.none _⟩
 by_cases w2:32768 < x.write
 ·simp only[Z8,seval,bf g2,bf g3,bf g4,bf g5,bf g6,bt g8,w1,w2]
  exact⟨_,xtwo rfl rfl rfl (by simp only[E8,seval]<;>rfl) (by simp only[E8,seval]<;>rfl),EncR.none _⟩
 by_cases w3:x.keep < 0
 ·simp only[Z8,seval,bf g2,bf g3,bf g4,bf g5,bf g6,bt g8,w1,w2,w3]
  exact⟨_,xtwo rfl rfl rfl (by simp only[E8,seval]<;>rfl) (by simp only[E8,seval]<;>rfl),EncR.none _⟩
 by_cases w4:32768 < x.keep
 ·simp only[Z8,seval,bf g2,bf g3,bf g4,bf g5,bf g6,bt g8,w1,w2,w3,w4]
  exact⟨_,xtwo rfl rfl rfl (by simp only[E8,seval]<;>rfl) (by simp only[E8,seval]<;>rfl),EncR.none _⟩
 simp only[Z8,seval,bf g2,bf g3,bf g4,bf g5,bf g6,bt g8,w1,w2,w3,w4,e6,e7]
 exact⟨_,xtwo rfl rfl rfl (by simp only[E8,seval,exFU8]<;>rfl) (by simp only[E8,seval,exFU8]<;>rfl),EncR.some _ _⟩
end Go.Ab.Tryz
