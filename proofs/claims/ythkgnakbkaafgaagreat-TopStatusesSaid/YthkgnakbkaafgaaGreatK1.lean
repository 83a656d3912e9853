/-
  Part 1 of the proof: an evaluator of programs, its soundness, and what functions of this program compute.
-/
import Derived.WalkKit
import Derived.Laws.AppendOwn
import Derived.Laws.StructEq
import Derived.DeepKeys
import Derived.Laws.Cover3
import Derived.Laws.Tables
import Derived.Laws.OwnMore
import Derived.Great.BuildSlice
set_option linter.all false
set_option maxRecDepth 20000
set_option maxHeartbeats 40000000
theorem Wl{P:Prop}(h:P:=by simp only[E8,seval]<;>rfl):P:=h
theorem WF{P:Prop}(h:P:=by omega):P:=h
theorem WP{P:Prop}(h:P:=by kernel_rfl):P:=h
theorem XC{P:Prop}(h:P:=by simp only[E8,seval,D]):P:=h
theorem XG{P:Prop}(h:P:=by grind [Flat.v]):P:=h
theorem X0{P:Prop}(h:P:=by simp only[EV,seval]<;>rfl):P:=h
theorem Yo{P:Prop}(h:P:=by simp only[E8,seval]<;>omega):P:=h
theorem ZB{P:Prop}(h:P:=by decide):P:=h
theorem Vt{P:Prop}(h:P:=by simp only[EV,seval]):P:=h
theorem UV{P:Prop}(h:P:=by and_intros<;>(simp only[E8,seval,D]<;>rfl)):P:=h
theorem qa{P:Prop}(h:P:=by constructor<;>simp only[zV,zR,pv,pr,Rn,List.contains_cons,contains_nil,Nat.reduceBEq,Bool.or_false,Bool.or_true,Bool.false_or,Bool.true_or,cond_false,cond_true,nil_append,append_nil,length_nil,Nat.add_zero,<- hs.fL,<- hs.cJ,<- hs.dM,<- hs.early,<- hs.bL,<- hs.tables,Pa hs]):P:=h
theorem qb{P:Prop}(h:P:=by simp only[E8,seval]):P:=h
theorem qc{P:Prop}(h:P:=by simp only[E8,seval,D]<;>rfl):P:=h
theorem qd{P:Prop}(h:P:=by simp only[E8,seval,D]<;>and_intros<;>rfl):P:=h
theorem qe{P:Prop}(h:P:=by simp):P:=h
theorem qg{P:Prop}(h:P:=by grind):P:=h
theorem qh{P:Prop}(h:P:=by apply bT;rfl;all_goals simp only[aI,bC,Z8,seval,R]<;>rfl):P:=h
theorem qi{P:Prop}(h:P:=by simp only[bC,EV,seval]<;>rfl):P:=h
theorem qj{P:Prop}(h:P:=by rw[if_pos (nb (fun h=>by obtain⟨W,r,G,u,u5,u6⟩:=h;first|exact absurd W (by assumption)|exact absurd r (by assumption)|omega|exact absurd (G.symm.trans g3) (by decide)))]):P:=h
theorem qk{P:Prop}(h:P:=by simp only[Z8,seval]<;>rfl):P:=h
theorem qm{P:Prop}(h:P:=by simp only[E8,seval,h]<;>rfl):P:=h
theorem qn{P:Prop}(h:P:=by simp only[bC,E8,seval]<;>rfl):P:=h
theorem qo{P:Prop}(h:P:=by apply fF;rfl;all_goals simp only[aI,bC,Z8,seval,C]<;>rfl):P:=h
theorem qp{P:Prop}(h:P:=by simp only[EV,seval,D]):P:=h
theorem qq{P:Prop}(h:P:=by simp only[E8,seval,NW]<;>rfl):P:=h
theorem qr{P:Prop}(h:P:=by rintro⟨rfl,rfl⟩;omega):P:=h
theorem qs{P:Prop}(h:P:=by simp;omega):P:=h
theorem qt{P:Prop}(h:P:=by simp only[EV,seval]<;>omega):P:=h
theorem qu{P:Prop}(h:P:=by simp only[E8,seval,qQ]<;>rfl):P:=h
theorem qv{P:Prop}(h:P:=by apply bT;rfl;all_goals simp only[aI,bC,Z8,seval,C]<;>rfl):P:=h
theorem qw{P:Prop}(h:P:=by simp only[E8,seval,jW]<;>rfl):P:=h
theorem qx{P:Prop}(h:P:=by simp only[bC,ZZ,seval];rfl):P:=h
theorem qy{P:Prop}(h:P:=by simp only[bC,Z8,seval];rfl):P:=h
theorem qz{P:Prop}(h:P:=by and_intros<;>(simp only[E8,seval]<;>rfl)):P:=h
theorem wa{P:Prop}(h:P:=by cases o<;>rfl):P:=h
theorem wc{P:Prop}(h:P:=by simp only[E8,seval,NW]<;>omega):P:=h
theorem wd{P:Prop}(h:P:=by rw[hs];(try simp only[Y,N,nil_append]);exact .inr (.inr ⟨_,rfl,(by simp only[EV,seval]<;>omega),(by simp only[EV,seval]<;>rfl)⟩)):P:=h
theorem we{P:Prop}(h:P:=by assumption):P:=h
theorem wg{P:Prop}(h:P:=by rw[hs];(try simp only[Y,N,nil_append]);exact .inr ⟨_,rfl,(by simp only[EV,seval]<;>omega),(by simp only[EV,seval]<;>rfl)⟩):P:=h
theorem wh{P:Prop}(h:P:=by simp only[E8,seval,C]<;>rfl):P:=h
theorem wi{P:Prop}(h:P:=by exact⟨⟨rb.sl,rb.j,rb.f,rb.pj,rb.pf⟩,rb.rt⟩):P:=h
theorem wj{P:Prop}(h:P:=by apply jE;rfl;all_goals simp only[aI,Z8,seval,dC,Hk,eG,bY,zG,sB]<;>rfl):P:=h
theorem wl{P:Prop}(h:P:=by apply fF;rfl;all_goals simp only[aI,bC,Z8,seval,p]<;>rfl):P:=h
theorem wm{P:Prop}(h:P:=by rw[C]):P:=h
theorem wn{P:Prop}(h:P:=by simp only[EV,seval,J]):P:=h
theorem wo{P:Prop}(h:P:=by simp only[E8,seval,NW,W,iC,length_cons,length_nil,Nat.lt_add_left_iff_pos,Nat.zero_lt_succ,if_true]<;>rfl):P:=h
theorem ws{P:Prop}(h:P:=by dsimp only;omega):P:=h
theorem wt{P:Prop}(h:P:=by simp only[EV,seval];rfl):P:=h
theorem wu{P:Prop}(h:P:=by cases h):P:=h
theorem wv{P:Prop}(h:P:=by simp only[sB,and_self]):P:=h
theorem ww{P:Prop}(h:P:=by simp only[E8,seval,D,bV]):P:=h
theorem wx{P:Prop}(h:P:=by simp only[E8,seval]<;>and_intros<;>rfl):P:=h
theorem wz{P:Prop}(h:P:=by cases e;simp only[E8,seval]<;>rfl):P:=h
theorem xf{P:Prop}(h:P:=by simp only[E8,seval,oI _ _ fun x m=>(hT x m).fl]<;>rfl):P:=h
theorem xh{P:Prop}(h:P:=by apply Iy;rfl;all_goals simp only[bC,Z8,seval,C]<;>rfl):P:=h
theorem xi{P:Prop}(h:P:=by rw[hs];(try simp only[Y,N,nil_append]);exact .inr (.inl ⟨_,rfl,(by simp only[EV,seval]<;>omega),(by simp only[EV,seval]<;>rfl)⟩)):P:=h
theorem xj{P:Prop}(h:P:=by simp only[EV,seval,h2]):P:=h
theorem xk{P:Prop}(h:P:=by simp only[Z8,seval,D]<;>rfl):P:=h
theorem xl{P:Prop}(h:P:=by simp only[E8,seval,h,decide_true,decide_false,Bool.true_and,Bool.false_and]<;>rfl):P:=h
theorem xm{P:Prop}(h:P:=by simp only[maxLen];omega):P:=h
theorem xn{P:Prop}(h:P:=by simpa using Y):P:=h
theorem xp{P:Prop}(h:P:=by grind [sW]):P:=h
theorem xq{P:Prop}(h:P:=by apply jE;rfl;all_goals simp only[aI,Z8,seval,p,dC,xE,fV,eG,bY,qJ,sB]<;>rfl):P:=h
theorem xr{P:Prop}(h:P:=by simp only[E8,seval,u]<;>rfl):P:=h
theorem xt{P:Prop}(h:P:=by simp only[bC,Z8,seval,D]<;>rfl):P:=h
theorem xu{P:Prop}(h:P:=by apply fF;rfl;all_goals simp only[aI,bC,Z8,seval,D,J,S,hex,xS]<;>rfl):P:=h
theorem xx{P:Prop}(h:P:=by simpa only[E8,seval] using N):P:=h
theorem xy{P:Prop}(h:P:=by simp only[E8,seval,p]):P:=h
theorem xz{P:Prop}(h:P:=by simp only[E8,seval,R]<;>rfl):P:=h
theorem yd{P:Prop}(h:P:=by apply fF;rfl;all_goals simp only[aI,bC,Z8,seval,D,J,M,xS]<;>rfl):P:=h
theorem ye{P:Prop}(h:P:=by rw[hs];exact hx0.mono (fun g _=>by simp only[EV,seval]) (by simp only[EV,seval]<;>omega)):P:=h
theorem yf{P:Prop}(h:P:=by simp only[EV,seval,X]):P:=h
theorem yg{P:Prop}(h:P:=by apply bT;rfl;all_goals simp only[aI,bC,Z8,seval,D]<;>rfl):P:=h
theorem yh{P:Prop}(h:P:=by rw[nH _ hA];simp only[E8,seval,D,ls]<;>and_intros<;>rfl):P:=h
theorem yi{P:Prop}(h:P:=by rw[h]):P:=h
theorem yj{P:Prop}(h:P:=by simp only[E8,seval]<;>exact⟨rfl,rfl⟩):P:=h
theorem yk{P:Prop}(h:P:=by simp only[E8,seval,D,length_set]<;>exact⟨rfl,rfl⟩):P:=h
theorem yl{P:Prop}(h:P:=by intro y Y;obtain⟨z,_,rfl⟩:=mem_map.1 Y;exact .v _):P:=h
theorem ym{P:Prop}(h:P:=by intro h;cases h):P:=h
theorem yn{P:Prop}(h:P:=by cases h<;>grind):P:=h
theorem yo{P:Prop}(h:P:=by rw[l (by omega),M];simp only[EV,seval]):P:=h
theorem yp{P:Prop}(h:P:=by simp only[bC,E8,seval,D]<;>rfl):P:=h
theorem yq{P:Prop}(h:P:=by rw[Dz _ (by omega) (by omega)]):P:=h
theorem yr{P:Prop}(h:P:=by simp only[EV,seval,p]):P:=h
theorem yt{P:Prop}(h:P:=by simp only[E8,seval,M]):P:=h
theorem yu{P:Prop}(h:P:=by have:=congrArg List.length hm;grind):P:=h
theorem yw{P:Prop}(h:P:=by grind [ol]):P:=h
theorem yy{P:Prop}(h:P:=by rw[length_append,length_cons,length_nil];omega):P:=h
theorem yz{P:Prop}(h:P:=by rw[mL e.len,<- Nat.add_mul];exact Nat.mul_le_mul_right _ (by omega)):P:=h
theorem zc{P:Prop}(h:P:=by simp[ol]):P:=h
theorem zf{P:Prop}(h:P:=by cases G.sd.flat;assumption):P:=h
theorem zg{P:Prop}(h:P:=by rw[dK,length_append,length_singleton];omega):P:=h
theorem zh{P:Prop}(h:P:=by simpa only[E8,seval] using hN):P:=h
theorem zi{P:Prop}(h:P:=by apply fF;rfl;all_goals simp only[aI,bC,Z8,seval,R,NW]<;>rfl):P:=h
theorem zj{P:Prop}(h:P:=by simp[Op.operands,Call.operands,<- Array.mem_toList_iff,W]):P:=h
theorem zk{P:Prop}(h:P:=by simp only[bC,Z8,seval]<;>rfl):P:=h
theorem zm{P:Prop}(h:P:=by apply fF;rfl;all_goals simp only[aI,bC,Z8,seval,W]<;>rfl):P:=h
theorem zn{P:Prop}(h:P:=by simp only[EV,seval,h]):P:=h
theorem zo{P:Prop}(h:P:=by simp only[EV,seval,C]):P:=h
theorem zp{P:Prop}(h:P:=by grind [vZ]):P:=h
theorem zq{P:Prop}(h:P:=by simp[hi]):P:=h
theorem zr{P:Prop}(h:P:=by rw[hV];exact bR V):P:=h
theorem zt{P:Prop}(h:P:=by have:=congrArg List.length M;grind):P:=h
theorem zu{P:Prop}(h:P:=by simp[h]):P:=h
theorem zw{P:Prop}(h:P:=by rw[dK];omega):P:=h
theorem zy{P:Prop}(h:P:=by unfold maxLen;omega):P:=h
theorem zz{P:Prop}(h:P:=by simp only[bC,Z8,seval,D]):P:=h
theorem z9{P:Prop}(h:P:=by simp only[E8,seval,X,u,qQ]<;>rfl):P:=h
theorem vb{P:Prop}(h:P:=by rw[hs];simp only[EV,seval]<;>rfl):P:=h
theorem vd{P:Prop}(h:P:=by first|exact .v _|simp only[sB,h]):P:=h
theorem ve{P:Prop}(h:P:=by simpa using p):P:=h
theorem vf{P:Prop}(h:P:=by unfold Oper.looksAt;exact mem_append_left _ (mem_filterMap.2 ⟨.tmp t,by simpa using hp,rfl⟩)):P:=h
theorem vg{P:Prop}(h:P:=by subst e;exact u):P:=h
theorem vh{P:Prop}(h:P:=by simp only[EV,seval,N,cR]<;>rfl):P:=h
theorem vi{P:Prop}(h:P:=by have J:i<((1:Nat):Int):=J;omega):P:=h
theorem vj{P:Prop}(h:P:=by and_intros<;>kernel_rfl):P:=h
theorem vk{P:Prop}(h:P:=by simp only[bC,EV,seval,D]<;>rfl):P:=h
theorem vm{P:Prop}(h:P:=by simpa only[E8,seval] using hX):P:=h
theorem vn{P:Prop}(h:P:=by simpa only[E8,seval] using hR):P:=h
theorem vp{P:Prop}(h:P:=by simpa only[E8,seval] using XJ):P:=h
theorem vq{P:Prop}(h:P:=by simp_all):P:=h
theorem vt{P:Prop}(h:P:=by simp[jS]):P:=h
theorem vu{P:Prop}(h:P:=by simp[Op.operands]):P:=h
theorem vv{P:Prop}(h:P:=by simp only[E8,seval,NW,true_and,Nat.zero_le,Nat.sub_zero,(eO l e).1,if_true,(eO l e).2.1]):P:=h
theorem vy{P:Prop}(h:P:=by simp only[EV,seval,S]):P:=h
theorem vz{P:Prop}(h:P:=by simp only[EV,seval,N]):P:=h
theorem v6{P:Prop}(h:P:=by simp only[E8,seval,J]):P:=h
theorem v9{P:Prop}(h:P:=by show (0:Int)<=0;omega):P:=h
theorem uu{P:Prop}(h:P:=by rw[G];exact fun h=>h.elim J fun h=>by grind):P:=h
theorem mb{P:Prop}(h:P:=by simpa only[E8,seval] using l):P:=h
theorem mc{P:Prop}(h:P:=by simp only[bC,ZZ,seval,D];rfl):P:=h
theorem me{P:Prop}(h:P:=by simp only[bC,Z8,seval,D];rfl):P:=h
theorem mf{P:Prop}(h:P:=by simp only[E8,seval,jc]<;>rfl):P:=h
theorem Qaf{P:Prop}(h:P:=by apply bT;rfl;all_goals simp only[aI,bC,Z8,seval,NW,nI,dC,fV,eG,RY _ _ C,bY,sB,p]<;>rfl):P:=h
theorem Qag{P:Prop}(h:P:=by rw[flatMap_cons,flatMap_cons,flatMap_cons,sJ (gZ _),sJ (.v _),sJ (.agg _ (fJ w))];rfl):P:=h
theorem Qah{P:Prop}(h:P:=by rw[A1 hA,he];exact⟨by simp only[E8,seval]<;>omega,by simp only[E8,seval]<;>rfl⟩):P:=h
theorem dm{P:Prop}(h:P:=by have:=h.nQ;omega):P:=h
theorem mg{P:Prop}(h:P:=by simp only[ZG,seval,D]<;>rfl):P:=h
theorem mh{P:Prop}(h:P:=by simp only[Z8,seval,W]<;>rfl):P:=h
theorem mi{P:Prop}(h:P:=by simp only[E8,seval,p]<;>rfl):P:=h
theorem mj{P:Prop}(h:P:=by simp only[E8,seval,W]<;>rfl):P:=h
theorem uv{P:Prop}(h:P:=by simp only[sB,iS,eU,sG,wC,Ag,Pw,and_self]):P:=h
theorem uw{P:Prop}(h:P:=by simp only[E8,seval,p]<;>and_intros<;>rfl):P:=h
theorem Qap{P:Prop}(h:P:=by rw[A1 hA];exact⟨by simp only[E8,seval]<;>omega,by simp only[E8,seval]<;>rfl⟩):P:=h
theorem Qaq{P:Prop}(h:P:=by rw[dK,length_append,length_append,length_take,length_drop,length_singleton];omega):P:=h
theorem ml{P:Prop}(h:P:=by simp only[E8,seval,hH j h]):P:=h
theorem Qas{P:Prop}(h:P:=by apply fF;rfl;all_goals simp only[aI,bC,Z8,seval,NW,lI,dC,fV,eG,Fi,bY,sB,p]<;>rfl):P:=h
theorem iw{P:Prop}(h:P:=by have:=r.now.2;omega):P:=h
theorem dn{P:Prop}(h:P:=by simpa using hg):P:=h
theorem dp{P:Prop}(h:P:=by simp[wG,g1,g2]):P:=h
theorem mo{P:Prop}(h:P:=by simp only[bC,ZZ,seval,D]):P:=h
theorem Qax{P:Prop}(h:P:=by unfold DZ;split<;>exact .cY _ (jC (.agg _ (cM _)) (.agg _ (cM _)) (.v _))):P:=h
theorem uz{P:Prop}(h:P:=by rw[Dz _ (by omega) (by omega)];omega):P:=h
theorem mq{P:Prop}(h:P:=by simp only[E8,seval,D,R]):P:=h
theorem QaA{P:Prop}(h:P:=by rw[mL e.len,length_take,Nat.min_eq_left (by omega)];exact Nat.le_refl _):P:=h
theorem cq{P:Prop}(h:P:=by rw[hs];simp):P:=h
theorem iy{P:Prop}(h:P:=by rw[hW];exact bR W):P:=h
theorem mr{P:Prop}(h:P:=by rw[A,decide_eq_false M]):P:=h
theorem iz{P:Prop}(h:P:=by have:=h.pos;omega):P:=h
theorem QaF{P:Prop}(h:P:=by rw[mL e.len,l2,<- Nat.add_mul];exact Nat.mul_le_mul_right _ (by omega)):P:=h
theorem dq{P:Prop}(h:P:=by simpa using u):P:=h
theorem dr{P:Prop}(h:P:=by simpa using h):P:=h
theorem QaI{P:Prop}(h:P:=by have:=congrArg List.length A;grind):P:=h
theorem dt{P:Prop}(h:P:=by grind [uK,Nw]):P:=h
theorem du{P:Prop}(h:P:=by cases L<;>rfl):P:=h
theorem mu{P:Prop}(h:P:=by unfold S5;rw[N,z2];rfl):P:=h
theorem mw{P:Prop}(h:P:=by simp[ctx,St.new,St.gV]):P:=h
theorem my{P:Prop}(h:P:=by simp[Act.eval,Act.put]):P:=h
theorem nf{P:Prop}(h:P:=by simp only[EV,seval,S7]):P:=h
theorem nh{P:Prop}(h:P:=by rw[<- C];exact wH p.sd):P:=h
theorem ni{P:Prop}(h:P:=by have:=S.ext.size;omega):P:=h
theorem QaR{P:Prop}(h:P:=by simp only[E8,seval,D,aN,aV]<;>rfl):P:=h
theorem nj{P:Prop}(h:P:=by simp only[EV,seval,u]):P:=h
theorem nk{P:Prop}(h:P:=by simp only[EV,seval,l]):P:=h
theorem nm{P:Prop}(h:P:=by simp only[EV,seval,Y]):P:=h
theorem np{P:Prop}(h:P:=by simp only[E8,seval,u]):P:=h
theorem nu{P:Prop}(h:P:=by simp only[E8,seval,X]):P:=h
theorem nw{P:Prop}(h:P:=by simp only[E8,seval,R]):P:=h
theorem QaY{P:Prop}(h:P:=by show (0:Int)<((1:Nat):Int);omega):P:=h
theorem QaZ{P:Prop}(h:P:=by rw[hs];simp only[E8,seval]<;>rfl):P:=h
theorem cr{P:Prop}(h:P:=by grind [Dz]):P:=h
theorem Qa1{P:Prop}(h:P:=by first|exact .v _|simp only[sB,C]):P:=h
theorem bh{P:Prop}(h:P:=by simp[S]):P:=h
theorem Qa3{P:Prop}(h:P:=by simp only[E8,seval,D,iL,dK,bV,aN,aV,M,e4,e7]<;>and_intros<;>rfl):P:=h
theorem bk{P:Prop}(h:P:=by cases Y):P:=h
theorem Qa5{P:Prop}(h:P:=by rw[length_set,length_set];simp only[E8,seval,length_set]<;>rfl):P:=h
theorem oa{P:Prop}(h:P:=by rw[hR.c.len];exact M):P:=h
theorem Qa7{P:Prop}(h:P:=by apply bT;rfl;all_goals simp only[aI,bC,Z8,seval,D,u,hex]<;>rfl):P:=h
theorem Qa8{P:Prop}(h:P:=by simpa only[E8,seval] using hX'):P:=h
theorem Qa9{P:Prop}(h:P:=by rw[zC _ (by omega) (by omega)]):P:=h
theorem Qba{P:Prop}(h:P:=by rw[<- ht,show (ol E).take k=[] by rw[S,take_zero],nil_append]):P:=h
theorem Qbb{P:Prop}(h:P:=by first|exact ok _ _ _ l (by omega)|exact ok _ _ _ m (by omega)):P:=h
theorem Qbc{P:Prop}(h:P:=by rw[G _ _ (by simp)];simp only[E8,seval,D]<;>and_intros<;>rfl):P:=h
theorem Qbd{P:Prop}(h:P:=by apply bT;rfl;all_goals simp only[aI,bC,Z8,seval,D,hf1]<;>rfl):P:=h
theorem dv{P:Prop}(h:P:=by simp[i0,i1]):P:=h
theorem oc{P:Prop}(h:P:=by rw[G.fL];exact cP _):P:=h
theorem Qbg{P:Prop}(h:P:=by apply bT;rfl;all_goals simp only[aI,bC,Z8,seval,D,ex]<;>rfl):P:=h
theorem Qbh{P:Prop}(h:P:=by cases e;simp only[E8,seval,aN,aV];exact⟨cn 25 n25,e25⟩):P:=h
theorem Qbi{P:Prop}(h:P:=by apply bT;rfl;all_goals simp only[aI,bC,Z8,seval,ft2]<;>rfl):P:=h
theorem Qbj{P:Prop}(h:P:=by apply bT;rfl;all_goals simp only[aI,bC,Z8,seval,R,D]<;>rfl):P:=h
theorem Qbk{P:Prop}(h:P:=by simpa only[E8,seval] using u):P:=h
theorem Qbl{P:Prop}(h:P:=by simp only[Z8,seval,NW]<;>rfl):P:=h
theorem Qbm{P:Prop}(h:P:=by simp only[E8,seval,pY]<;>rfl):P:=h
theorem Qbn{P:Prop}(h:P:=by simp only[E8,seval,h2]<;>rfl):P:=h
theorem Qbo{P:Prop}(h:P:=by simp only[E8,seval,Ea]<;>rfl):P:=h
theorem Qbp{P:Prop}(h:P:=by show (b.length:Int)<=_;omega):P:=h
theorem Qbq{P:Prop}(h:P:=by apply fF;rfl;all_goals simp only[aI,bC,Z8,seval,hz]<;>rfl):P:=h
theorem Qbr{P:Prop}(h:P:=by apply bT;rfl;all_goals simp only[aI,bC,Z8,seval,ff]<;>rfl):P:=h
theorem Qbs{P:Prop}(h:P:=by apply bT;rfl;all_goals simp only[aI,bC,Z8,seval,f1]<;>rfl):P:=h
theorem Qbt{P:Prop}(h:P:=by apply bT;rfl;all_goals simp only[aI,bC,Z8,seval,Rl]<;>rfl):P:=h
theorem oe{P:Prop}(h:P:=by rw[h.len];exact i1):P:=h
theorem og{P:Prop}(h:P:=by cases o<;>simp[ol]):P:=h
theorem Qbw{P:Prop}(h:P:=by apply bT;rfl;all_goals simp only[aI,bC,Z8,seval,W]<;>rfl):P:=h
theorem Qbx{P:Prop}(h:P:=by apply bT;rfl;all_goals simp only[aI,bC,Z8,seval,N]<;>rfl):P:=h
theorem Qby{P:Prop}(h:P:=by apply Iy;rfl;all_goals simp only[bC,Z8,seval,D,ex]<;>rfl):P:=h
theorem ja{P:Prop}(h:P:=by simpa using J):P:=h
theorem jb{P:Prop}(h:P:=by simpa using C):P:=h
theorem jd{P:Prop}(h:P:=by simp_all [sB]):P:=h
theorem bw{P:Prop}(h:P:=by simp[N]):P:=h
theorem bx{P:Prop}(h:P:=by simp[J]):P:=h
theorem QbE{P:Prop}(h:P:=by simp only[E8,seval,length_replicate]<;>and_intros<;>rfl):P:=h
theorem QbF{P:Prop}(h:P:=by rw[mL G,<- Nat.succ_mul];exact Nat.mul_le_mul_right _ W):P:=h
theorem je{P:Prop}(h:P:=by cases h<;>rfl):P:=h
theorem bz{P:Prop}(h:P:=by cases e):P:=h
theorem jf{P:Prop}(h:P:=by cases d<;>rfl):P:=h
theorem QbJ{P:Prop}(h:P:=by apply Iy;rfl;all_goals simp only[bC,Z8,seval,ft2]<;>rfl):P:=h
theorem QbK{P:Prop}(h:P:=by cases o;exact congrArg (fun l=>some (0,l)) h0.symm;rfl):P:=h
theorem QbL{P:Prop}(h:P:=by subst hp;simp[Op.operands]):P:=h
theorem QbM{P:Prop}(h:P:=by simp only[E8,seval,aN,x7,false_and,if_false];exact hX):P:=h
theorem QbN{P:Prop}(h:P:=by rw[IntKind.wrap_i64];omega):P:=h
theorem QbO{P:Prop}(h:P:=by apply Tw;rfl;all_goals simp only[bC,Z8,seval,W]<;>rfl):P:=h
theorem QbP{P:Prop}(h:P:=by simp only[E8,seval];omega):P:=h
theorem QbQ{P:Prop}(h:P:=by show n.block.slot<=s.now+1;have:=(r.nd n M).2;omega):P:=h
theorem oh{P:Prop}(h:P:=by rw[length_set,W]):P:=h
theorem QbS{P:Prop}(h:P:=by simp only[xZ];exact gR.2 ⟨(.exit id,s1),J,h2⟩):P:=h
theorem QbT{P:Prop}(h:P:=by simp only[sB,and_self,D]):P:=h
theorem QbU{P:Prop}(h:P:=by rw[p hA];simp only[E8,seval,D]<;>and_intros<;>rfl):P:=h
theorem QbV{P:Prop}(h:P:=by rw[aM,Tryz.xC (f:=eE st) fun c m=>cV (N c m)];rfl):P:=h
theorem dw{P:Prop}(h:P:=by rw[C];rfl):P:=h
theorem QbX{P:Prop}(h:P:=by obtain⟨i,hi⟩:=(h p hp).1;rw[hi];exact aBD r i):P:=h
theorem QbY{P:Prop}(h:P:=by obtain⟨i,hi⟩:=(h p hp).1;rw[hi];exact aBC x i):P:=h
theorem QbZ{P:Prop}(h:P:=by exact⟨⟨jF _,rb.j,rb.f,rb.pj,rb.pf⟩,rb.rt⟩):P:=h
theorem Qb0{P:Prop}(h:P:=by simp only[E8,seval]<;>exact⟨rfl,rfl,rfl,rfl⟩):P:=h
theorem ct{P:Prop}(h:P:=by simp[R]):P:=h
theorem Qb2{P:Prop}(h:P:=by simp only[E8,seval];rfl):P:=h
theorem Qb3{P:Prop}(h:P:=by rw[p hA] at h ⊢;simp only[E8,seval];exact r h):P:=h
theorem om{P:Prop}(h:P:=by cases e;exact h):P:=h
theorem Qb5{P:Prop}(h:P:=by simp only[E8,seval,NW];exact (AM (Q:=Q) l W).1):P:=h
theorem Qb6{P:Prop}(h:P:=by simp only[E8,seval,D,iL,dK]<;>and_intros<;>rfl):P:=h
theorem Qb7{P:Prop}(h:P:=by cases e;simpa only[E8,seval] using ⟨n25,p⟩):P:=h
theorem Qb8{P:Prop}(h:P:=by simp only[xZ];exact gR.2 ⟨(.ret,s1),J,h2⟩):P:=h
theorem oo{P:Prop}(h:P:=by simpa using h2):P:=h
theorem dz{P:Prop}(h:P:=by simp[hu]):P:=h
theorem ec{P:Prop}(h:P:=by simp[hs]):P:=h
theorem ed{P:Prop}(h:P:=by simp[h2]):P:=h
theorem Qcd{P:Prop}(h:P:=by rw[aHn];simp only[Nat.min_def];split<;>omega):P:=h
theorem ot{P:Prop}(h:P:=by grind [maxLen]):P:=h
theorem ou{P:Prop}(h:P:=by cases hj;omega):P:=h
theorem Qcg{P:Prop}(h:P:=by simp only[E8,seval,p,implies_true,and_self]):P:=h
theorem Qch{P:Prop}(h:P:=by simp only[E8,seval,D,ls]<;>and_intros<;>rfl):P:=h
theorem Qci{P:Prop}(h:P:=by simp only[E8,seval,D,iL]<;>and_intros<;>rfl):P:=h
theorem Qcj{P:Prop}(h:P:=by rw[length_take];omega):P:=h
theorem jg{P:Prop}(h:P:=by grind [jF]):P:=h
theorem ji{P:Prop}(h:P:=by grind [gK]):P:=h
def Go.Ab.cQ {α:Type} (a b:α):(some a=some b)=(a=b):=Option.some.injEq a b
def Go.Ab.cR {α β:Type} (f:α->β) (a:α):(some a).map f=some (f a):=rfl
open List
noncomputable section
section
namespace Go.Ab
variable {α:Type}
abbrev bg (n:Nat):Prop:=(n:Int)<1000000
open Classical
inductive AV where
 | v (x:Value)
 | agg (cs:List AV)
 | sl (n:Nat) (cs:List AV)
 | cl (n:Nat) (cs:List AV)
 | ip (cs:List AV) (o:Nat)
 | ptr (s g off:Nat)
 | own (s g:Nat)
 | mp (s g:Nat)
 | rL (f:Nat) (lT:List AV)
 | cY (vs:List AV)
 | uniq (e sz n:Nat) (cs:List AV)
 | vw (s g o n:Nat)
abbrev af:AV:=.v (.slice none 0 0)
abbrev ae (x:Bool):AV:=.v (.bool x)
abbrev ac (x:Int):AV:=.v (.int .u64 x)
abbrev aa (x:Int):AV:=.v (.int .i64 x)
inductive mH where
 | cells (cs:List AV)
 | row (e sz n:Nat) (cs:List AV)
 | map (es:List (AV × AV))
structure St where
 env:Nat->AV
 heap:Nat->Nat->Option mH
 aJ:Nat->Nat
class Ext where
 mv:Nat->Bool
 oM:Nat->Bool
 B1:Nat->Option Nat->Bool
 inl:Nat->Option Nat->Bool
 dyn:Nat->Nat->Option Nat->List (Nat × Nat)
 pa:Nat->Nat->Bool
 va:Nat->Nat->Bool
 ext:Nat->List AV->Option AV
 fz:Nat->Option Nat->Option (List Nat):=fun _ _=>none
 im:Nat->Nat->Bool:=fun _ _=>false
 ow:Nat->Bool:=fun _=>false
 Zy:Nat->List AV->St->Option (AV × St):=fun _ _ _=>none
def St.put (st:St) (d:Option Nat) (x:AV):St :=
 match d with
 | none=>st
 | some d=>{ st with env:=fun t=>if t=d then x else st.env t }
def St.gV (st:St) (s g:Nat) (e:Option mH):St :=
 { st with heap:=fun D g'=>if D=s/\g'=g then e else st.heap D g' }
def St.news (st:St) (d:Nat) (es:List mH):St :=
 { st with heap:=fun D g'=>if D=d/\st.aJ d<=g'/\g' - st.aJ d<es.length then es[g' - st.aJ d]? else st.heap D g',aJ:=fun s=>if s=d then st.aJ d+es.length else st.aJ s }
def St.new (st:St) (d:Nat) (e:mH):St :=
 { st with heap:=fun D g'=>if D=d/\g'=st.aJ d then some e else st.heap D g',aJ:=fun s=>if s=d then st.aJ d+1 else st.aJ s }
def St.ev (st:St):Operand->AV
 | .tmp t=>st.env t
 | .const x=>.v x
 | .global g=>.v (.pointer (some ⟨g,0,none⟩))
 | .func f=>.v (.func (.func f) #[] #[])
structure rI where
 dst:Option Nat
 val:AV
 dE:Option (Nat × Nat × Option mH):=none
 new:Option (Nat × List mH):=none
def rI.apply (e:rI) (st:St):St :=
 let s1:=match e.dE with
  | some (s,g,x)=>st.gV s g x
  | none=>st
 let s2:=match e.new with
  | some (d,x)=>s1.news d x
  | none=>s1
 s2.put e.dst e.val
def AV.cells:AV->List AV
 | .agg cs=>cs
 | x=>[x]
inductive Flat:AV->Prop
 | v (x:Value):Flat (.v x)
 | agg (cs:List AV) (h:∀x∈cs,Flat x):Flat (.agg cs)
 | sl (n:Nat) (cs:List AV) (h:∀x∈cs,Flat x):Flat (.sl n cs)
 | cl (n:Nat) (cs:List AV) (h:∀x∈cs,Flat x):Flat (.cl n cs)
 | ip (cs:List AV) (o:Nat) (h:∀x∈cs,Flat x):Flat (.ip cs o)
 | rL (f:Nat) (cs:List AV) (h:∀x∈cs,Flat x):Flat (.rL f cs)
 | cY (cs:List AV) (h:∀x∈cs,Flat x):Flat (.cY cs)
inductive cZ:AV->Prop
 | v (x:Value):cZ (.v x)
 | agg (cs:List AV) (h:∀x∈cs,cZ x):cZ (.agg cs)
 | cY (cs:List AV) (h:∀x∈cs,cZ x):cZ (.cY cs)
def cT {β:Type} (x:Option α) (f:α->Option β):Option β :=
 match x with
 | some a=>f a
 | none=>none
section tables
variable (P:Program)
def bF (T f:Nat):Option Nat :=
 match P.underlying T with
 | some (.struct M) =>
   match M[f]? with
   | some fd=>if P.cellsOf fd.type=0 then none else some fd.offset
   | none=>none
 | _=>none
def gW (T:Nat):Option (Nat × Nat) :=
 match P.underlying T with
 | some (.array n e)=>if P.cellsOf e=0 then none else some (n,P.cellsOf e)
 | _=>none
def dD (T:Nat):Option (Nat × Nat × Nat) :=
 match P.underlying T with
 | some (.slice e) =>
   match P.info? e with
   | some i =>
     match i.zero with
     | some z=>if i.size=0\/z.cells.size≠i.size then none else some (e,i.size,i.bytes)
     | none=>none
   | none=>none
 | _=>none
def lJ (T:Nat):Option (Bool × Nat) :=
 match P.info? T with
 | none=>none
 | some i =>
   match P.underlying T with
   | some (.struct _)=>some (true,i.size)
   | some (.array _ _)=>some (true,i.size)
   | some _=>some (false,i.size)
   | none=>none
def eC (T:Nat):Option (List Value) :=
 match P.info? T with
 | some i =>
   match i.zero with
   | some z=>if (z.cells.toList.all fun y=>y.oneCell')=true then some z.cells.toList else none
   | none=>none
 | none=>none
def intKind (T:Nat):Option IntKind :=
 match P.underlying T with
 | some (.int k)=>some k
 | _=>none
def dV (t:Nat):Bool :=
 match P.underlying t with
 | some (.struct _)=>true
 | some (.array _ _)=>true
 | _=>false
def Mf (f:Nat->Option (List Bool)):List Field->Nat->Option (List Bool)
 | [],_=>some []
 | fd :: r,off =>
   match f fd.type with
   | some m =>
     if fd.name ≠ "_" ∧ fd.offset = off ∧ P.cellsOf fd.type = m.length ∧ (P.info? fd.type).isSome = true then (Mf f r (off + m.length)).map (m ++ ·) else none
   | none=>none
def fG:Nat->Nat->Option (List Bool)
 | 0,_=>none
 | d+1,t =>
   match P.underlying t with
   | some .bool=>some [false]
   | some (.int _)=>some [true]
   | some (.struct M)=>if P.stoodInHeld t=true then none else Mf P (fG d) M.toList 0
   | some (.array n e) =>
     match fG d e with
     | some m=>if P.cellsOf e=m.length/\(P.info? e).isSome=true then some ((List.range n).flatMap fun _=>m) else none
     | none=>none
   | _=>none
end tables
def mA:List Bool->List AV->List AV->Prop
 | [],[],[]=>True
 | true :: l,.v (.int k _) :: xs,.v (.int A _) :: ys=>k=A/\mA l xs ys
 | false :: l,.v (.bool _) :: xs,.v (.bool _) :: ys=>mA l xs ys
 | _,_,_=>False
section ops
variable (P:Program)
def Im (T:Nat) (xs ys:List AV):Option Bool :=
 match fG P 20 T with
 | some l=>if dV P T=true/\P.eqGuardType P.depth T=false/\mA l xs ys then some (decide (xs=ys)) else none
 | none=>none
def Gv (op:BinOp) (T:Nat) (b:Bool):Option AV :=
 match P.underlying T with
 | some (.slice _) =>
   match op with
   | .eql=>some (ae b)
   | .neq=>some (ae (!b))
   | _=>none
 | _=>none
def jS (op:BinOp) (T:Nat) (x y:AV):Option AV :=
 match x,y with
 | .v (.int k a),.v (.int A b) =>
   match op with
   | .shl=>if b<0 then none else some (.v (.int k (k.wrap (a * 2 ^ (min b.toNat k.bits)))))
   | .shr=>if b<0 then none else some (.v (.int k (a.fdiv (2 ^ (min b.toNat k.bits)))))
   | .add=>if k=A then some (.v (.int k (k.wrap (a+b)))) else none
   | .sub=>if k=A then some (.v (.int k (k.wrap (a-b)))) else none
   | .mul=>if k=A then some (.v (.int k (k.wrap (a * b)))) else none
   | .quo=>if k=A/\b≠0 then some (.v (.int k (k.wrap (a.tdiv b)))) else none
   | .rem=>if k=A/\b≠0 then some (.v (.int k (a.tmod b))) else none
   | .and=>if k=A then some (.v (.int k (k.wrap (BitVec.ofInt k.bits a &&& BitVec.ofInt k.bits b).toNat))) else none
   | .or=>if k=A then some (.v (.int k (k.wrap (BitVec.ofInt k.bits a ||| BitVec.ofInt k.bits b).toNat))) else none
   | .xor=>if k=A then some (.v (.int k (k.wrap (BitVec.ofInt k.bits a ^^^ BitVec.ofInt k.bits b).toNat))) else none
   | .andNot=>if k=A then some (.v (.int k (k.wrap (BitVec.ofInt k.bits a &&& ~~~ BitVec.ofInt k.bits b).toNat))) else none
   | .eql=>if k=A then some (ae (a == b)) else none
   | .neq=>if k=A then some (ae (a != b)) else none
   | .lss=>if k=A then some (ae (decide (a<b))) else none
   | .leq=>if k=A then some (ae (decide (a<=b))) else none
   | .gtr=>if k=A then some (ae (decide (a > b))) else none
   | .geq=>if k=A then some (ae (decide (a>=b))) else none
 | .v (.bool a),.v (.bool b) =>
   match P.underlying T with
   | some .bool =>
     match op with
     | .eql=>some (ae (a == b))
     | .neq=>some (ae (!(a == b)))
     | _=>none
   | _=>none
 | .agg xs,.agg ys =>
   match op with
   | .eql=>(Im P T xs ys).map fun b=>ae b
   | .neq=>(Im P T xs ys).map fun b=>ae (!b)
   | _=>none
 | .sl _ (_ :: _),.v (.slice none 0 0)=>Gv P op T false
 | .ptr _ _ _,.v (.pointer none) =>
   match P.underlying T with
   | some (.pointer _) =>
     match op with
     | .eql=>some (ae false)
     | .neq=>some (ae true)
     | _=>none
   | _=>none
 | .v (.slice p 0 _),.v (.slice none 0 0)=>Gv P op T p.isNone
 | _,_=>none
def ca (op:UnOp) (x:AV):Option AV :=
 match op,x with
 | .not,.v (.bool b)=>some (ae (!b))
 | .neg,.v (.int k n)=>some (.v (.int k (k.wrap (0-n))))
 | .xor,.v (.int k n)=>some (.v (.int k (k.wrap (BitVec.ofInt k.bits (if k.signed then -1 else k.max) ^^^ BitVec.ofInt k.bits n).toNat)))
 | _,_=>none
def wT (x:AV) (k:Nat):Option AV :=
 match x with
 | .ptr s g o=>some (.ptr s g (o+k))
 | .ip cs o=>if o+k<=cs.length then some (.ip cs (o+k)) else none
 | _=>none
def rM (st:St) (x:AV):Option (List AV) :=
 match x with
 | .ip cs o=>some (cs.drop o)
 | .ptr s g o =>
   match st.heap s g with
   | some (.cells cs)=>some (cs.drop o)
   | some (.row _ _ _ cs)=>some (cs.drop o)
   | _=>none
 | _=>none
def zX (T:Nat) (cs:List AV):Option AV :=
 match lJ P T with
 | some (true,k)=>if 0<k/\k<=cs.length then some (.agg (cs.take k)) else none
 | some (false,_)=>cs.head?
 | none=>none
def bA (st:St) (x:AV):Option (Nat × List AV) :=
 match x with
 | .sl n cs=>some (n,cs)
 | .cl n cs=>some (n,cs)
 | .own s g =>
   match st.heap s g with
   | some (.row _ _ n cs)=>some (n,cs)
   | _=>none
 | .vw s g o n =>
   match st.heap s g with
   | some (.row _ sz _ cs)=>if o+n * sz<=cs.length then some (n,(cs.drop o).take (n * sz)) else none
   | some (.cells cs)=>if o+n<=cs.length then some (n,(cs.drop o).take n) else none
   | _=>none
 | .v (.slice _ 0 _)=>some (0,[])
 | _=>none
def bK (st:St) (T:Nat) (x i:AV):Option AV :=
 match i with
 | .v (.int _ i) =>
   match gW P T with
   | some (n,sz)=>if 0<=i/\i<n then wT x (i.toNat * sz) else none
   | none =>
     match dD P T with
     | some (e,sz,_) =>
       match x with
       | .sl n cs=>if 0<=i/\i<n/\i.toNat * sz+sz<=cs.length then some (.ip ((cs.drop (i.toNat * sz)).take sz) 0) else none
       | .own s g =>
         match st.heap s g with
         | some (.row e' l n _)=>if 0<=i/\i<n/\e'=e/\l=sz then some (.ptr s g (i.toNat * sz)) else none
         | _=>none
       | .vw s g o n=>if 0<=i/\i<n then some (.ptr s g (o+i.toNat * sz)) else none
       | _=>none
     | none=>none
 | _=>none
def mP (place:Nat->Option (Nat × Nat)) (cells:List AV):List (Nat × AV)->Option (List AV)
 | []=>some cells
 | (i,x) :: rest =>
   match place i with
   | none=>none
   | some (off,size) =>
     if x.cells.length=size/\off+size<=cells.length then mP place (cells.take off++x.cells++cells.drop (off+size)) rest else none
def placeOf (T:Nat):Option (Nat->Option (Nat × Nat)) :=
 match P.underlying T with
 | some (.struct M)=>if M.all (fun f=>(P.info? f.type).isSome) then some fun i=>(M[i]?).map fun f=>(f.offset,P.cellsOf f.type) else none
 | some (.array _ e)=>if (P.info? e).isSome then some fun i=>some (i * P.cellsOf e,P.cellsOf e) else none
 | _=>none
def AV.lL:AV->Bool
 | .v x=>x.oneCell'
 | .cY _=>false
 | .uniq _ _ _ _=>false
 | _=>true
def wU (st:St) (T:Nat) (parts:List (Nat × Operand)):Option AV :=
 match eC P T,placeOf P T with
 | some z,some place =>
   if (parts.all fun p=>(st.ev p.2).lL)=true then (mP place (z.map .v) (parts.map fun p=>(p.1,st.ev p.2))).map .agg else none
 | _,_=>none
def dW (st:St) (T:Nat) (x:AV) (lo hi:Option Operand):Option AV :=
 match dD P T with
 | some (_,sz,_) =>
   match x with
   | .sl n cs =>
     match (match hi with|some h=>st.ev h|none=>.v (.int .i64 n)),(match lo with|some l=>st.ev l|none=>.v (.int .i64 0)) with
     | .v (.int _ h),.v (.int _ l) =>
       if 0<=l/\l<=h/\h<=n/\cs.length=n * sz then some (.sl (h-l).toNat ((cs.drop (l.toNat * sz)).take ((h-l).toNat * sz))) else none
     | _,_=>none
   | .v (.slice none 0 0) =>
     match (match hi with|some h=>st.ev h|none=>.v (.int .i64 0)),(match lo with|some l=>st.ev l|none=>.v (.int .i64 0)) with
     | .v (.int _ h),.v (.int _ l)=>if l=0/\h=0 then some x else none
     | _,_=>none
   | .own s g =>
     match st.heap s g with
     | some (.row _ _ n _) =>
       match (match hi with|some h=>st.ev h|none=>.v (.int .i64 n)),(match lo with|some l=>st.ev l|none=>.v (.int .i64 0)) with
       | .v (.int _ h),.v (.int _ l)=>if 0<=l/\l<=h/\h<=n then (if l=h/\¬(l=0/\0<n) then some (.sl 0 []) else some (.vw s g (l.toNat * sz) (h-l).toNat)) else none
       | _,_=>none
     | _=>none
   | .vw s g 0 _ =>
     match st.heap s g,hi,lo with
     | some (.row _ _ n _),some hi,some lo =>
       match st.ev hi,st.ev lo with
       | .v (.int _ h),.v (.int _ l)=>if 0<=l/\l<h/\h<=n then some (.vw s g (l.toNat * sz) (h-l).toNat) else none
       | _,_=>none
     | _,_,_=>none
   | _=>none
 | none =>
   match gW P T,x,lo,hi with
   | some (n,_),.ptr s g o,none,none =>
     match st.heap s g with
     | some (.cells _)=>some (.vw s g o n)
     | _=>none
   | _,_,_,_=>none
def tX (st:St) (T:Nat) (x:AV) (lo:Option Operand) (hi D:Operand):Option AV :=
 match dD P T with
 | some (_,sz,_) =>
   match st.ev hi,st.ev D,(match lo with|some l=>st.ev l|none=>.v (.int .i64 0)) with
   | .v (.int _ h),.v (.int _ m),.v (.int _ l) =>
     match x with
     | .sl n cs=>if 0<=l/\l<=h/\h=m/\h<=n/\cs.length=n * sz then some (.cl (h-l).toNat ((cs.drop (l.toNat * sz)).take ((h-l).toNat * sz))) else none
     | .v (.slice none 0 0)=>if l=0/\h=0/\m=0 then some x else none
     | .own s g =>
       match st.heap s g with
       | some (.row _ _ n _)=>if 0<=l/\l<=h/\h<=m/\m<=n then some (.sl (h-l).toNat []) else none
       | _=>none
     | _=>none
   | _,_,_=>none
 | none=>none
def Es (l:List Bool) (k:Nat):Bool :=
 match P.underlying k with
 | some (.int _)=>true
 | some .bool=>true
 | some (.array n e) =>
   match P.underlying e with
   | some (.int _)=>decide (P.cellsOf e=1) && decide (l.length=n) && (P.info? e).isSome && decide (n<=10000)
   | _=>false
 | _=>false
def aMS (T:Nat):Option AV :=
 match P.info? T with
 | some i =>
   match i.zero with
   | some (.agg cs)=>if (cs.toList.all fun y=>y.oneCell')=true then some (.agg (cs.toList.map .v)) else none
   | some y=>if y.oneCell'=true then some (.v y) else none
   | none=>none
 | none=>none
def Da (T:Nat):Option (Nat × AV) :=
 match P.underlying T with
 | some (.map k e) =>
   match fG P 20 k,aMS P e with
   | some l,some z=>if Es P l k=true then some (k,z) else none
   | _,_=>none
 | _=>none
def oO (k:Nat) (x y:AV):Prop :=
 match fG P 20 k with
 | some l=>mA l x.cells y.cells/\(dV P k=true->(∃cs,x=.agg cs)/\∃cs,y=.agg cs)/\(dV P k=false->(∃u,x=.v u)/\∃u,y=.v u)
 | none=>False
def KN:List (AV × AV)->AV->Option AV
 | [],_=>none
 | p :: r,x=>if p.1=x then some p.2 else KN r x
def Zz:List (AV × AV)->AV->AV->List (AV × AV)
 | [],x,y=>[(x,y)]
 | p :: r,x,y=>if p.1=x then (x,y) :: r else p :: Zz r x y
def Io (st:St) (T:Nat) (m x:AV) (ok:Bool):Option AV :=
 match m with
 | .mp s g =>
   match st.heap s g,Da P T with
   | some (.map es),some (k,z) =>
     if oO P k x x/\∀p∈es,oO P k x p.1 then
      match KN es x with
      | some v=>some (if ok=true then .cY [v,ae true] else v)
      | none=>some (if ok=true then .cY [z,ae false] else z)
     else none
   | _,_=>none
 | _=>none
def qD (st:St) (T:Nat) (m x y:AV):Option (Nat × Nat × mH) :=
 match m with
 | .mp s g =>
   match st.heap s g,Da P T with
   | some (.map es),some (k,_)=>if (oO P k x x/\∀p∈es,oO P k x p.1)/\y.lL=true then some (s,g,.map (Zz es x y)) else none
   | _,_=>none
 | _=>none
def fieldInfo (T f:Nat):Option (Nat × Bool × Nat) :=
 match P.underlying T with
 | some (.struct M) =>
   match M[f]? with
   | some fd =>
     match lJ P fd.type with
     | some (b,k)=>if b=true\/k=1 then some (fd.offset,b,k) else none
     | none=>none
   | none=>none
 | _=>none
def Pk (T f:Nat) (x:AV):Option AV :=
 match x with
 | .agg cs =>
   match fieldInfo P T f with
   | some (off,true,k)=>if off+k<=cs.length then some (.agg ((cs.drop off).take k)) else none
   | some (off,false,_)=>cs[off]?
   | none=>none
 | _=>none
def jG (st:St):Op->Option AV
 | .move x=>some (st.ev x)
 | .assign x=>some (st.ev x)
 | .pick c a b =>
   match st.ev c with
   | .v (.bool t)=>some (if t=true then st.ev a else st.ev b)
   | _=>none
 | .binOp op T x y _=>jS P op T (st.ev x) (st.ev y)
 | .unOp op _ x=>ca op (st.ev x)
 | .convert src dst x =>
   match st.ev x,intKind P dst,intKind P src with
   | .v (.int _ n),some k,some _=>some (.v (.int k (k.wrap n)))
   | _,_,_=>none
 | .nilCheck x =>
   match st.ev x with
   | .ptr s g o=>some (.ptr s g o)
   | .ip cs o=>some (.ip cs o)
   | _=>none
 | .field T x f=>Pk P T f (st.ev x)
 | .fieldAddr T x f =>
   match bF P T f with
   | some k=>wT (st.ev x) k
   | none=>none
 | .indexAddr T x i=>bK P st T (st.ev x) (st.ev i)
 | .load T a=>cT (rM st (st.ev a)) (zX P T)
 | .extract t i =>
   match st.ev t with
   | .cY vs=>vs[i]?
   | _=>none
 | .build T parts=>wU P st T parts.toList
 | .slice T x lo hi none=>dW P st T (st.ev x) lo hi
 | .slice T x lo (some h) (some m)=>tX P st T (st.ev x) lo h m
 | .lookup T x i ok=>Io P st T (st.ev x) (st.ev i) ok
 | .makeFunc (.func f) first captured=>if first=#[] then some (.rL f (captured.toList.map st.ev)) else none
 | _=>none
def qW (st:St) (T:Nat) (a x:AV):Option (Nat × Nat × mH) :=
 match a with
 | .ptr s g o =>
   match lJ P T with
   | some (_,k) =>
     if x.cells.length=k/\x.lL=true then
      match st.heap s g with
      | some (.cells cs)=>if o+k<=cs.length then some (s,g,.cells (cs.take o++x.cells++cs.drop (o+k))) else none
      | some (.row e sz n cs)=>if o+k<=cs.length then some (s,g,.row e sz n (cs.take o++x.cells++cs.drop (o+k))) else none
      | _=>none
     else none
   | none=>none
 | _=>none
def dS (st:St) (T:Nat) (s x:AV):Option (Option (Nat × Nat) × mH) :=
 match dD P T with
 | some (e,sz,by_) =>
   match bA st x with
   | some (m,news) =>
     if news.length=m * sz then
      match s with
      | .v (.slice none 0 0) =>
        if m * by_<=140737488355328/\m<=maxLen then some (none,.row e sz m news) else none
      | .own D g' =>
        match st.heap D g' with
        | some (.row e' l n cs) =>
          if e'=e/\l=sz/\(n+m) * by_<=140737488355328/\n+m<=maxLen then
           some (some (D,g'),.row e sz (n+m) (cs++news))
          else none
        | _=>none
      | .cl n cs =>
        if cs.length=n * sz/\(n=0\/0<m)/\(n+m) * by_<=140737488355328/\n+m<=maxLen then some (none,.row e sz (n+m) (cs++news)) else none
      | _=>none
     else none
   | none=>none
 | none=>none
def lH (st:St) (T:Nat) (s x:AV):Option (Nat × Nat × mH × Nat) :=
 match dD P T,bA st x,s with
 | some (e,sz,_),some (m,news),.vw D g' 0 k =>
   match st.heap D g' with
   | some (.row e' l n cs) =>
     if e'=e/\l=sz/\news.length=m * sz/\k+m<=n then some (D,g',.row e' l n (cs.take (k * sz)++news++cs.drop (k * sz+m * sz)),k+m) else none
   | _=>none
 | _,_,_=>none
def tC (st:St) (T:Nat) (x:AV):Option (Option (Nat × Nat × mH)) :=
 match dD P T,x with
 | some (e,sz,_),.vw s g o k =>
   match eC P e,st.heap s g with
   | some z,some (.row e' l n cs)=>if e'=e/\l=sz/\o+k * sz<=cs.length then some (some (s,g,.row e' l n (cs.take o++((List.range k).flatMap fun _=>z.map .v)++cs.drop (o+k * sz)))) else none
   | _,_=>none
 | some _,.sl 0 _=>some none
 | some _,.v (.slice none 0 0)=>some none
 | _,_=>none
def QO (st:St) (T:Nat) (s x:AV):Prop:=s=af/\(dD P T).isSome=true/\(bA st x).map Prod.fst=some 0
def sS (st:St) (x:AV):Option AV :=
 if Flat x then some x else
 match x with
 | .own s g =>
   match st.heap s g with
   | some (.row _ _ n cs)=>if ∀c∈cs,Flat c then some (.sl n cs) else none
   | _=>none
 | .vw s g o n =>
   match st.heap s g with
   | some (.row _ sz _ cs)=>if (∀c∈cs,Flat c)/\o+n * sz<=cs.length then some (.sl n ((cs.drop o).take (n * sz))) else none
   | _=>none
 | _=>none
def bM {α:Type}:List (Option α)->Option (List α)
 | []=>some []
 | some x :: r=>(bM r).map (x :: ·)
 | none :: _=>none
def cO (st:St) (x:AV):Option AV :=
 if Flat x then some x else
 match x with
 | .own s g =>
   match st.heap s g with
   | some (.row _ _ n cs)=>if ∀c∈cs,Flat c then some (.sl n cs) else none
   | _=>none
 | .vw s g o n =>
   match st.heap s g with
   | some (.row _ sz _ cs)=>if (∀c∈cs,Flat c)/\o+n * sz<=cs.length then some (.sl n ((cs.drop o).take (n * sz))) else none
   | _=>none
 | .ptr s g o =>
   match st.heap s g with
   | some (.cells cs)=>(bM (cs.map (sS st))).map fun ds=>.ip ds o
   | _=>none
 | _=>none
def eE (st:St) (x:AV):Option AV :=
 if Flat x then some x else
 match x with
 | .agg cs=>(bM (cs.map (cO st))).map .agg
 | .rL f G=>(bM (G.map (cO st))).map (.rL f)
 | x=>cO st x
def XM:AV->Option (Nat × List AV)
 | .v (.func (.func f) first G)=>if first=#[]/\G=#[] then some (f,[]) else none
 | .rL f G=>some (f,G)
 | _=>none
def pG (d c:Nat):AV->AV × List mH
 | .uniq e sz n cs=>(.own d c,[.row e sz n cs])
 | x=>(x,[])
def kH (f:Nat->AV->AV × List mH):Nat->List AV->List AV × List mH
 | _,[]=>([],[])
 | c,x :: xs=>((f c x).1 :: (kH f (c+(f c x).2.length) xs).1,(f c x).2++(kH f (c+(f c x).2.length) xs).2)
def CT (d c:Nat):AV->AV × List mH
 | .agg cs=>(.agg (kH (pG d) c cs).1,(kH (pG d) c cs).2)
 | x=>pG d c x
def XN (d c:Nat):AV->AV × List mH
 | .cY vs=>(.cY (kH (CT d) c vs).1,(kH (CT d) c vs).2)
 | x=>CT d c x
def O5:AV->Prop
 | .uniq _ _ _ cs=>∀c∈cs,cZ c
 | x=>cZ x
def O6:AV->Prop
 | .agg cs=>∀c∈cs,O5 c
 | x=>O5 x
def CU:AV->Prop
 | .cY vs=>∀x∈vs,O6 x
 | x=>O6 x
def jH (r:AV) (st:St) (dst:Option Nat):Option rI :=
 if Flat r then some { dst:=dst,val:=r } else
 match dst with
 | some d=>some { dst:=some d,val:=(XN d (st.aJ d) r).1,new:=some (d,(XN d (st.aJ d) r).2)}
 | none=>none
def aO (call:Nat->List AV->Option AV) (g:Nat) (args:List AV) (st:St) (dst:Option Nat):Option rI :=
 if ∀x∈args,Flat x then cT (call g args) fun r=>jH r st dst
 else
  match bM (args.map (eE st)) with
  | some xs=>cT (call g xs) fun r=>if CU r then jH r st dst else none
  | none=>none
def kU (call:Nat->List AV->Option AV) (g:Nat) (args:List AV) (st:St) (dst:Option Nat):Option rI :=
 match args with
 | .own s k :: rest =>
   match st.heap s k with
   | some (.row e sz n cs) =>
     if (∀c∈cs,Flat c)/\∀x∈rest,Flat x then
      match call g (.uniq e sz n cs :: rest) with
      | some (.uniq e' l W Y) =>
        match dst with
        | some d=>some { dst:=some d,val:=.own d (st.aJ d),dE:=some (s,k,none),new:=some (d,[.row e' l W Y])}
        | none=>none
      | some (.cY [.uniq e' l W Y])=>some { dst:=dst,val:=.cY [],dE:=some (s,k,some (.row e' l W Y))}
      | _=>none
     else none
   | _=>none
 | args=>if ∀x∈args,Flat x then aO call g args st dst else none
def gP:AV->List (Nat × Nat)
 | .own s g=>[(s,g)]
 | _=>[]
def jB:AV->List (Nat × Nat)
 | .agg cs=>cs.flatMap gP
 | x=>gP x
def nD:AV->List (Nat × Nat)
 | .cY vs=>vs.flatMap jB
 | x=>jB x
def ox (x:AV):Prop:=Flat x\/(∃s k,x=.own s k)\/∃cs,x=.agg cs/\∀c∈cs,Flat c\/∃s k,c=.own s k
def Dv (r:AV) (st:St) (dst:Option Nat) (s k:Nat):Option rI:=(jH r st dst).map fun e=>{ e with dE:=some (s,k,none)}
def eH (call:Nat->List AV->Option AV) (g:Nat) (args:List AV) (st:St) (dst:Option Nat):Option rI :=
 match args.flatMap jB with
 | [(s,k)] =>
   if ∀x∈args,ox x then
    match bM (args.map (eE st)) with
    | some xs=>cT (call g xs) fun r=>Dv r st dst s k
    | none=>none
   else none
 | _=>aO call g args st dst
def O7 (b:Bool):AV->AV
 | .uniq e sz n cs=>if b=true then .uniq e sz n cs else .sl n cs
 | x=>x
def Ja (l:List Nat):Nat->List AV->List AV
 | _,[]=>[]
 | k,x :: xs=>O7 (l.contains k) x :: Ja l (k+1) xs
def Yq:AV->Prop
 | .uniq _ _ _ cs=>∀c∈cs,Flat c
 | x=>Flat x
def frz (l:List Nat):AV->Option AV
 | .agg cs=>if ∀c∈cs,Yq c then some (.agg (Ja l 0 cs)) else none
 | _=>none
def Oo (l:List Nat) (call:Nat->List AV->Option AV) (g:Nat) (xs:List AV):Option AV:=if ∀x∈xs,Flat x then cT (call g xs) (frz l) else none
def CV (l:Option (List Nat)) (call:Nat->List AV->Option AV):Nat->List AV->Option AV :=
 match l with
 | none=>call
 | some l=>Oo l call
section ext
variable [Ext]
def pE (call:Nat->List AV->Option AV) (f:Operand) (args:List AV) (st:St) (dst:Option Nat):Option rI :=
 match f with
 | .func g=>if Ext.mv g=true then kU call g args st dst else if Ext.B1 g dst=true then eH (CV (Ext.fz g dst) call) g args st dst else aO (CV (Ext.fz g dst) call) g args st dst
 | f =>
   match XM (st.ev f) with
   | some (g,G)=>aO call g (args++G) st dst
   | none=>none
def iZ (call:Nat->List AV->Option AV) (c:Call) (dst:Option Nat) (st:St):Option rI :=
 match c.callee with
 | .value f=>pE call f (c.args.toList.map st.ev) st dst
 | .builtin .len =>
   match c.args.toList,c.argTypes.toList with
   | [x],[T] =>
     match dD P T,bA st (st.ev x) with
     | some _,some (n,_)=>some { dst:=dst,val:=aa n}
     | _,_=>none
   | _,_=>none
 | .builtin .min =>
   match c.args.toList with
   | [x,y] =>
     match st.ev x,st.ev y with
     | .v (.int k a),.v (.int _ b)=>some { dst:=dst,val:=.v (.int k (if b<a then b else a))}
     | _,_=>none
   | _=>none
 | .builtin .max =>
   match c.args.toList with
   | [x,y] =>
     match st.ev x,st.ev y with
     | .v (.int k a),.v (.int _ b)=>some { dst:=dst,val:=.v (.int k (if b > a then b else a))}
     | _,_=>none
   | _=>none
 | .builtin .append =>
   cT dst fun d =>
    match c.args.toList,c.argTypes.toList with
    | [s,x],[T,N] =>
      if T=N then
       if Ext.va T d=true then (lH P st T (st.ev s) (st.ev x)).map fun u=>{ dst:=some d,val:=.vw u.1 u.2.1 0 u.2.2.2,dE:=some (u.1,u.2.1,some u.2.2.1)} else
       if Ext.pa T d=true/\QO P st T (st.ev s) (st.ev x) then some { dst:=some d,val:=af} else
       cT (dS P st T (st.ev s) (st.ev x)) fun X=>some { dst:=some d,val:=.own d (st.aJ d),dE:=X.1.map fun p=>(p.1,p.2,none),new:=some (d,[X.2])}
      else none
    | _,_=>none
 | .builtin .clear =>
   match c.args.toList,c.argTypes.toList with
   | [x],[T]=>(tC P st T (st.ev x)).map fun u=>{ dst:=dst,val:=.cY [],dE:=u.map fun p=>(p.1,p.2.1,some p.2.2)}
   | _,_=>none
 | _=>none
def tD (st:St) (T d e sz n:Nat) (cs:List AV):rI :=
 if Ext.im T d=true/\∀c∈cs,Flat c then { dst:=some d,val:=.sl n cs } else { dst:=some d,val:=.own d (st.aJ d),new:=some (d,[.row e sz n cs])}
def dU (call:Nat->List AV->Option AV) (o:Oper) (st:St):Option rI :=
 match o.op with
 | .alloc T =>
   cT o.dst fun d=>cT (eC P T) fun z=>some { dst:=some d,val:=.ptr d (st.aJ d) 0,new:=some (d,[.cells (z.map .v)])}
 | .box _ x =>
   cT o.dst fun d=>if (st.ev x).lL=true then some { dst:=some d,val:=.ptr d (st.aJ d) 0,new:=some (d,[.cells (st.ev x).cells])} else none
 | .buildSlice T n parts =>
   cT o.dst fun d=>cT (dD P T) fun t=>cT (eC P t.1) fun z =>
    if (0<n\/parts=#[])/\n * t.2.1<=2 ^ 24/\(parts.toList.all fun p=>(st.ev p.2).lL)=true then
     cT (mP (fun i=>some (i * t.2.1,t.2.1)) ((List.range n).flatMap fun _=>z.map .v) (parts.toList.map fun p=>(p.1,st.ev p.2))) fun cs =>
      some (tD st T d t.1 t.2.1 n cs)
    else none
 | .makeSlice T l c =>
   cT o.dst fun d=>cT (dD P T) fun t=>cT (eC P t.1) fun z =>
    match st.ev l,st.ev c with
    | .v (.int .i64 n),.v (.int .i64 m) =>
      if 0<=n/\n=m/\n * t.2.2<=140737488355328/\n<=maxLen then
       some (tD st T d t.1 t.2.1 n.toNat ((List.range n.toNat).flatMap fun _=>z.map .v))
      else none
    | _,_=>none
 | .store T a x=>(qW P st T (st.ev a) (st.ev x)).map fun u=>{ dst:=o.dst,val:=.v undef,dE:=some (u.1,u.2.1,some u.2.2)}
 | .makeMap _ none=>cT o.dst fun d=>some { dst:=some d,val:=.mp d (st.aJ d),new:=some (d,[.map []])}
 | .mapUpdate T m x y=>(qD P st T (st.ev m) (st.ev x) (st.ev y)).map fun u=>{ dst:=o.dst,val:=.v undef,dE:=some (u.1,u.2.1,some u.2.2)}
 | .call c=>iZ P call c o.dst st
 | op=>(jG P st op).map fun x=>{ dst:=o.dst,val:=x }
def gv (ops:Array Oper) (st:St) (g:Option (Nat × Bool)):Option Bool :=
 match g with
 | none=>some true
 | some (j,want) =>
   match (ops[j]?).bind (·.dst) with
   | some d =>
     match st.env d with
     | .v x=>match x with
       | .bool b=>some (b == want)
       | _=>some false
     | _=>none
   | none=>some false
def cU (call:Nat->List AV->Option AV) (ops:Array Oper) (o:Oper) (st:St):Option St :=
 match gv ops st o.guard with
 | some b=>if b=true then (dU P call o st).map fun e=>e.apply st else some (st.put o.dst (.v undef))
 | none=>none
def Rq (call:Nat->List AV->Option AV) (ops:Array Oper):List Oper->St->Option St
 | [],st=>some st
 | o :: r,st=>cT (cU P call ops o st) (Rq call ops r)
def Ip (o:Oper):Option (Nat × List Operand) :=
 match o.op with
 | .call { callee:=.value (.func g),args,.. }=>if Ext.inl g o.dst=true then some (g,args.toList) else none
 | _=>none
def eR (o:Oper):Bool:=(Ip o).isNone
def aS9 (ops:Array Oper):Bool:=ops.all eR
def tK (ops:Array Oper):Option Nat:=(ops[0]?).bind (·.dst)
def St.back (st:St) (s:St):St:=⟨st.env,s.heap,s.aJ⟩
def fZ (b:Bool) (call:Nat->List AV->Option AV) (inl:Nat->List AV->St->Option (AV × St)) (ops:Array Oper) (o:Oper) (st:St):Option St :=
 match (if b=true then Ip o else none) with
 | some (g,args) =>
   match gv ops st o.guard with
   | some t=>if t=true then (inl g (args.map st.ev) st).map fun r=>(st.back r.2).put o.dst r.1 else some (st.put o.dst (.v undef))
   | none=>none
 | none=>cU P call ops o st
def mW (b:Bool) (call:Nat->List AV->Option AV) (inl:Nat->List AV->St->Option (AV × St)) (ops:Array Oper):List Oper->St->Option St
 | [],st=>some st
 | o :: r,st=>cT (fZ P b call inl ops o st) (mW b call inl ops r)
def iK (o:Oper):Option (List Nat) :=
 match o.guard with
 | some _=>none
 | none =>
   match o.op with
   | .load _ (.tmp a)=>some [a]
   | .store _ (.tmp a) _=>some [a]
   | .indexAddr _ (.tmp a) _=>some [a]
   | .slice _ (.tmp a) _ _ _=>some [a]
   | .call { callee:=.builtin .len,args,.. } =>
     match args.toList with
     | [.tmp a]=>some [a]
     | _=>none
   | .call { callee:=.builtin .append,args,.. } =>
     match args.toList with
     | [.tmp a,.tmp b]=>some [a,b]
     | _=>none
   | .call { callee:=.value (.func g),args,.. } =>
     match args.toList with
     | .tmp a :: _=>if Ext.mv g=true then some [a] else none
     | _=>none
   | _=>none
def keyOf:AV->Option (Option (Nat × Nat))
 | .ptr s g _=>some (some (s,g))
 | .own s g=>some (some (s,g))
 | .vw s g _ _=>some (some (s,g))
 | .v _=>some none
 | .sl _ _=>some none
 | .cl _ _=>some none
 | .ip _ _=>some none
 | _=>none
def aJm:Option (Option (Nat × Nat))->Option (Option (Nat × Nat))->Prop
 | some (some k),some (some A)=>k≠A
 | some _,some _=>True
 | _,_=>False
def gB (x y:AV):Prop:=aJm (keyOf x) (keyOf y)
def Pl (s:St) (D A:List Nat):Prop:=∀a∈D,∀b∈A,gB (s.env a) (s.env b)
def CW (ops:Array Oper) (s:St) (p:Nat × Nat):Prop :=
 match (ops[p.1]?).bind iK,(ops[p.2]?).bind iK with
 | some D,some A=>Pl s D A
 | _,_=>False
def sC (ops:Array Oper) (s:St):List (Nat × Nat)->Prop
 | []=>True
 | p :: l=>CW ops s p/\sC ops s l
inductive Ex where
 | normal
 | exit (id:Nat)
 | ret
def Ex.inBlock (id:Nat):Ex->Ex
 | .exit i=>if i=id then .normal else .exit i
 | e=>e
def xZ (bi:Bool) (call:Nat->List AV->Option AV) (inl:Nat->List AV->St->Option (AV × St)):Nat->Code->St->Option (Ex × St)
 | 0,_,_=>none
 | n+1,c,st =>
   match c with
   | .skip=>some (.normal,st)
   | .region id ops _=>cT (mW P bi call inl ops ops.toList st) fun s=>if bi=true/\¬sC ops s (Ext.dyn id ops.size (tK ops)) then none else some (.normal,s)
   | .seq a b=>cT (xZ bi call inl n a st) fun r=>match r.1 with
     | .normal=>xZ bi call inl n b r.2
     | e=>some (e,r.2)
   | .cond c a b =>
     match st.ev c with
     | .v (.bool t)=>if t=true then xZ bi call inl n a st else xZ bi call inl n b st
     | _=>none
   | .block id b=>cT (xZ bi call inl n b st) fun r=>some (r.1.inBlock id,r.2)
   | .loop b=>cT (xZ bi call inl n b st) fun r=>match r.1 with
     | .normal=>xZ bi call inl n (.loop b) r.2
     | e=>some (e,r.2)
   | .exit id=>some (.exit id,st)
   | .ret=>some (.ret,st)
   | .label _=>some (.normal,st)
   | .scope b=>xZ bi call inl n b st
   | _=>none
def jP (st:St):ResultVar->Option AV
 | .tmp t=>some (st.env t)
 | .cell a T=>cT (rM st (st.env a)) (zX P T)
def Yr (st:St) (x:AV):Option AV :=
 match x with
 | .own s g =>
   match st.heap s g with
   | some (.row e sz n cs)=>if ∀c∈cs,Flat c then some (.uniq e sz n cs) else none
   | _=>none
 | x=>eE st x
def Et (st:St) (x:AV):Option AV :=
 match x with
 | .own s g =>
   match st.heap s g with
   | some (.row _ _ n cs)=>(bM (cs.map (cO st))).map (.sl n)
   | _=>none
 | x=>cO st x
def Rr (st:St) (x:AV):Option AV :=
 match x with
 | .agg cs=>(bM (cs.map (Et st))).map .agg
 | x=>Et st x
def Eu (st:St) (x:AV):Option AV :=
 match eE st x with
 | some y=>some y
 | none=>Rr st x
def xR (fn:Func) (st:St):Option AV :=
 match fn.results.toList with
 | [r]=>cT (jP P st r) (Yr st)
 | rs=>(bM (rs.map fun r=>cT (jP P st r) (Eu st))).map .cY
def kZ (st:St) (x:AV):Option AV :=
 if Flat x then some x else
 match x with
 | .own s g =>
   match st.heap s g with
   | some (.row e sz n cs)=>if ∀c∈cs,Flat c then some (.uniq e sz n cs) else none
   | _=>none
 | _=>none
def tE (st:St):AV->Option AV
 | .agg cs=>(bM (cs.map (kZ st))).map .agg
 | x=>kZ st x
def Ev (st:St):AV->Option AV
 | .cY vs=>(bM (vs.map (tE st))).map .cY
 | x=>tE st x
def Rs (fn:Func) (st:St):Option AV :=
 match fn.results.toList with
 | [r]=>cT (jP P st r) fun x=>if (nD x).Nodup then Ev st x else none
 | rs=>cT (bM (rs.map fun r=>jP P st r)) fun xs=>if (nD (.cY xs)).Nodup then Ev st (.cY xs) else none
def kJ (f:Nat) (fn:Func) (st:St):Option AV:=if Ext.oM f=true then Rs P fn st else xR P fn st
def St.init (xs:List AV):St:=⟨fun t=>(xs[t]?).getD (.v undef),fun _ _=>none,fun _=>0⟩
def nF (ops:Array Oper) (o:Oper):Nat:= -- 0: touches no memory · 1: reads · 2: makes memory · 3: writes
 match o.op with
 | .load ..=>1
 | .indexAddr ..=>1
 | .slice ..=>1
 | .alloc _|.box .. | .buildSlice .. | .makeSlice .. | .makeMap ..=>2
 | .store ..=>3
 | .mapUpdate ..=>3
 | .lookup ..=>1
 | .call { callee:=.builtin .append,args,.. }=>match args.toList with
   | .const (.slice none 0 0) :: _=>1
   | _=>3
 | .call { callee:=.builtin .len,.. }=>1
 | .call { callee:=.builtin .clear,.. }=>3
 | .call { callee:=.value (.func g),args,.. }=>if Ext.B1 g o.dst=true then 3 else if Ext.mv g=true then (match args.toList with
   | .const (.slice none 0 0) :: _=>1
   | _=>3) else 1
 | .call _=>1
 | .select ..=>4
 | _=>if ops.size=0 then 0 else 0
def vP (ops:Array Oper) (x y:Oper):Bool :=
 Oper.apart ops x y &&
 (match nF ops x,nF ops y with
  | 4,_=>false
  | _,4=>false
  | 3,1=>false
  | 1,3=>false
  | 3,3=>false
  | _,_=>true)
def O8 (acc:Array Nat) (o:Oper):Nat :=
 o.after.toList.foldl (fun s e=>if Region.binds .any e=true then s ||| 2 ^ e.on ||| acc.getD e.on 0 else s) 0
def forced (n:Nat) (k:Nat->α):α :=
 match n with
 | 0=>k 0
 | m+1=>k (m+1)
def NV:List Oper->Array Nat->Array Nat
 | [],acc=>acc
 | o :: r,acc=>forced (O8 acc o) fun n=>NV r (acc.push n)
def yA (b:Array Nat) (i:Nat) (D:List Nat):List Oper->Nat->Bool
 | [],_=>true
 | o :: r,m=>((match o.dst with | some d=>!D.contains d | none=>true) || (b.getD i 0).testBit m) && yA b i D r (m+1)
def QP (ops:Array Oper) (b:Array Nat) (i:Nat) (oi:Oper) (j:Nat) (C:Oper):Bool :=
 match iK oi,iK C with
 | some D,some A=>Oper.apart ops oi C && yA b i D ops.toList 0 && yA b j A ops.toList 0
 | _,_=>false
def Rt (ops:Array Oper) (G:List (Nat × Nat)) (b:Array Nat) (j:Nat) (C:Oper):List Oper->Nat->Bool
 | [],_=>true
 | oi :: r,i=>(decide (j<=i) || (b.getD j 0).testBit i || (eR oi && eR C && (vP ops oi C || (G.contains (i,j) && QP ops b i oi j C)))) && Rt ops G b j C r (i+1)
def QQ (ops:Array Oper) (G:List (Nat × Nat)) (b:Array Nat):List Oper->Nat->Bool
 | [],_=>true
 | C :: r,j=>(C.after.toList.all fun e=>!(Region.binds .any e) || decide (e.on<j)) && Rt ops G b j C ops.toList 0 && QQ ops G b r (j+1)
def CX (ops:Array Oper) (G:List (Nat × Nat)):Bool:=QQ ops G (NV ops.toList #[]) ops.toList 0
def codeOk (bi:Bool) (nt:Nat):Code->Bool
 | .region id ops draw=>(ops.all fun o=>o.dst.all fun d=>decide (d<nt)) && (!draw || (CX ops (if bi=true then Ext.dyn id ops.size (tK ops) else [])))
 | .seq a b=>codeOk bi nt a && codeOk bi nt b
 | .cond _ a b=>codeOk bi nt a && codeOk bi nt b
 | .block _ b=>codeOk bi nt b
 | .loop b=>codeOk bi nt b
 | .scope b=>codeOk bi nt b
 | _=>true
def nG:Code->Bool
 | .region _ ops draw=>!aS9 ops || (draw && !CX ops [])
 | .seq a b=>nG a || nG b
 | .cond _ a b=>nG a || nG b
 | .block _ b=>nG b
 | .loop b=>nG b
 | .scope b=>nG b
 | _=>false
def Oq (bi : Bool) (fn : Func) : Bool := fn.name != "runtime.NumGoroutine" && (match fn.body with | some c => codeOk bi fn.ntmps c | none => false)
def rP (fn:Func):Bool:=Oq (match fn.body with|some c=>nG c|none=>false) fn
def ef (call:Nat->List AV->Option AV) (inl:Nat->List AV->St->Option (AV × St)) (n f:Nat) (xs:List AV):Option AV :=
 match P.funcs[f]? with
 | some fn =>
   if rP fn=true then
    match fn.body with
    | some c=>cT (xZ P (nG c) call inl n c (St.init xs)) fun r=>match r.1 with
      | .exit _=>none
      | _=>kJ P f fn r.2
    | none=>none
   else none
 | none=>none
def St.uS (e sz n:Nat) (cs rest:List AV):St :=
 ⟨fun t=>match t with|0=>.own 0 0|t+1=>(rest[t]?).getD (.v undef),fun s g=>if s=0/\g=0 then some (.row e sz n cs) else none,fun s=>if s=0 then 1 else 0⟩
def Db (fn:Func) (st:St):Option AV :=
 match fn.results.toList with
 | [r] =>
   match jP P st r with
   | some (.own s g) =>
     match st.heap s g with
     | some (.row e sz n cs)=>if ∀c∈cs,cZ c then some (.uniq e sz n cs) else none
     | _=>none
   | some (.vw s g 0 k) =>
     match st.heap s g with
     | some (.row e sz n cs)=>if k<=n/\cs.length=n * sz/\∀c∈cs,cZ c then some (.uniq e sz k (cs.take (k * sz))) else none
     | _=>none
   | _=>none
 | _=>none
def runM (call:Nat->List AV->Option AV) (inl:Nat->List AV->St->Option (AV × St)) (n f e sz m:Nat) (cs rest:List AV):Option AV :=
 match P.funcs[f]? with
 | some fn =>
   if rP fn=true then
    match fn.body with
    | some c=>cT (xZ P (nG c) call inl n c (St.uS e sz m cs rest)) fun r=>match r.1 with
      | .exit _=>none
      | _=>Db P fn r.2
    | none=>none
   else none
 | none=>none
def zY (fn:Func) (st:St):Option AV :=
 match fn.results.toList with
 | [r]=>jP P st r
 | rs=>(bM (rs.map fun r=>jP P st r)).map .cY
def Iq (st:St) (x:AV):AV × St :=
 match x with
 | .vw s g 0 k =>
   match st.heap s g with
   | some (.row e sz n cs)=>if k<=n then (.own s (st.aJ s),(st.gV s g none).new s (.row e sz k (cs.take (k * sz)))) else (x,st)
   | _=>(x,st)
 | x=>(x,st)
def eg (call:Nat->List AV->Option AV) (inl:Nat->List AV->St->Option (AV × St)) (n f:Nat) (xs:List AV) (st:St):Option (AV × St) :=
 match P.funcs[f]? with
 | some fn =>
   if Oq true fn=true then
    match fn.body with
    | some c=>cT (xZ P true call inl n c ((St.init xs).back st)) fun r=>match r.1 with
      | .exit _=>none
      | _=>(zY P fn r.2).map (Iq r.2)
    | none=>none
   else none
 | none=>none
def tF:AV->Bool
 | .uniq _ _ _ _=>true
 | _=>false
def vQ:List AV->Option (Nat × Nat × Nat × List AV × List AV)
 | .uniq e sz m cs :: rest=>some (e,sz,m,cs,rest)
 | _=>none
def XO:Nat->(Nat->List AV->Option AV) × (Nat->List AV->St->Option (AV × St))
 | 0=>(Ext.ext,fun _ _ _=>none)
 | n+1=>(fun f xs=>match Ext.ext f xs with
   | some r=>some r
   | none =>
     match vQ xs with
     | some u=>runM P (XO n).1 (XO n).2 n f u.1 u.2.1 u.2.2.1 u.2.2.2.1 u.2.2.2.2
     | none=>if xs.any tF=true then none else ef P (XO n).1 (XO n).2 n f xs,
  fun f xs st=>match Ext.Zy f xs st with
   | some r=>some r
   | none=>eg P (XO n).1 (XO n).2 n f xs st)
def Ri (n:Nat):Nat->List AV->Option AV:=(XO P n).1
def CY (n:Nat):Nat->List AV->St->Option (AV × St):=(XO P n).2
theorem CZ (f:Nat) (xs:List AV):Ri P 0 f xs=Ext.ext f xs:=rfl
theorem Bf (n f:Nat) (xs:List AV):Ri P (n+1) f xs=match Ext.ext f xs with
 | some r=>some r
 | none =>
   match vQ xs with
   | some u=>runM P (Ri P n) (CY P n) n f u.1 u.2.1 u.2.2.1 u.2.2.2.1 u.2.2.2.2
   | none=>if xs.any tF=true then none else ef P (Ri P n) (CY P n) n f xs:=rfl
theorem aE2 (f:Nat) (xs:List AV) (st:St):CY P 0 f xs st=none:=rfl
theorem Jq (n f:Nat) (xs:List AV) (st:St):CY P (n+1) f xs st=match Ext.Zy f xs st with
 | some r=>some r
 | none=>eg P (Ri P n) (CY P n) n f xs st:=rfl
def BR:List AV->Bool
 | .own _ _ :: _=>true
 | _=>false
end ext
end ops
end Go.Ab
end
section
namespace Go.Ab
open Classical
variable {x:AV} {y v:Value} {cs ds:List AV} {ys xs:List Value} {n base sz b s g:Nat} {e e':mH} {w':World} {r:Option Nat}
structure Ctx where
 h:Nat->Obj->Prop
 ρ:Nat->Nat->Value
 aJ:Nat->Nat
variable {C D:Ctx}
def cW:Value->Option Nat
 | .pointer (some a)=>some a.block
 | .slice (some a) _ (_+1)=>some a.block
 | .map (some r)=>some r
 | _=>none
inductive cD (C:Ctx):AV->Value->Prop
 | v (x:Value):cD C (.v x) x
 | agg (cs:List AV) (a:Array Value) (hl:cs.length=a.size) (h:∀(i:Nat) (x:AV) (y:Value),cs[i]? = some x->a[i]? = some y->cD C x y)
  (h1:∀(i:Nat) (y:Value),a[i]? = some y->y.oneCell'=true):cD C (.agg cs) (.agg a)
 | QR (n cap:Nat) (p:Option Addr) (nM:n<=cap):cD C (.sl n []) (.slice p n cap)
 | sl (n:Nat) (cs:List AV) (b off cap:Nat) (arr:Array Value) (T:Nat) (fr:Nat × Nat) (nM:n<=cap) (hb:C.h b (.cells arr T fr)) (hle:off+cs.length<=arr.size)
  (h:∀(i:Nat) (x:AV) (y:Value),cs[i]? = some x->arr[off+i]? = some y->cD C x y)
  (h1:∀(i:Nat) (y:Value),i<cs.length->arr[off+i]? = some y->y.oneCell'=true):cD C (.sl n cs) (.slice (some ⟨b,off,none⟩) n cap)
 | cc (n:Nat) (p:Option Addr):cD C (.cl n []) (.slice p n n)
 | cl (n:Nat) (cs:List AV) (b off:Nat) (arr:Array Value) (T:Nat) (fr:Nat × Nat) (hb:C.h b (.cells arr T fr)) (hle:off+cs.length<=arr.size)
  (h:∀(i:Nat) (x:AV) (y:Value),cs[i]? = some x->arr[off+i]? = some y->cD C x y)
  (h1:∀(i:Nat) (y:Value),i<cs.length->arr[off+i]? = some y->y.oneCell'=true):cD C (.cl n cs) (.slice (some ⟨b,off,none⟩) n n)
 | ip (cs:List AV) (o b off:Nat) (arr:Array Value) (T:Nat) (fr:Nat × Nat) (hb:C.h b (.cells arr T fr)) (hle:off+cs.length<=arr.size)
  (h:∀(i:Nat) (x:AV) (y:Value),cs[i]? = some x->arr[off+i]? = some y->cD C x y)
  (h1:∀(i:Nat) (y:Value),i<cs.length->arr[off+i]? = some y->y.oneCell'=true):cD C (.ip cs o) (.pointer (some ⟨b,off+o,none⟩))
 | ptr (s g off b:Nat) (hg:g<C.aJ s) (hb:cW (C.ρ s g)=some b):cD C (.ptr s g off) (.pointer (some ⟨b,off,none⟩))
 | own (s g:Nat) (hg:g<C.aJ s) (ho:(C.ρ s g).oneCell'=true):cD C (.own s g) (C.ρ s g)
 | mp (s g:Nat) (hg:g<C.aJ s) (ho:(C.ρ s g).oneCell'=true):cD C (.mp s g) (C.ρ s g)
 | vw (s g o n b cap:Nat) (hg:g<C.aJ s) (hb:cW (C.ρ s g)=some b) (nM:n<=cap) (wR:o=0->∀p n0 c0,C.ρ s g=.slice p n0 c0->cap=c0):cD C (.vw s g o n) (.slice (some ⟨b,o,none⟩) n cap)
 | rL (f:Nat) (cs:List AV) (a:Array Value) (hl:cs.length=a.size) (h:∀(i:Nat) (x:AV) (y:Value),cs[i]? = some x->a[i]? = some y->cD C x y) :
  cD C (.rL f cs) (.func (.func f) #[] a)
 | cY (cs:List AV) (a:Array Value) (hl:cs.length=a.size) (h:∀(i:Nat) (x:AV) (y:Value),cs[i]? = some x->a[i]? = some y->cD C x y) :
  cD C (.cY cs) (.tuple a)
structure Ctx.Le (C D:Ctx):Prop where
 h:∀b o,C.h b o->D.h b o
 aJ:∀s,C.aJ s<=D.aJ s
 ρ:∀s g,g<C.aJ s->D.ρ s g=C.ρ s g
theorem Ctx.Le.refl (C:Ctx):C.Le C:=⟨fun _ _ h=>h,fun _=>Nat.le_refl _,fun _ _ _=>rfl⟩
def Ctx.Le.trans {C D E:Ctx} (h:C.Le D) (k:D.Le E):C.Le E :=
 ⟨fun b o x=>k.h b o (h.h b o x),fun s=>Nat.le_trans (h.aJ s) (k.aJ s),fun s g x=>(k.ρ s g (Nat.lt_of_lt_of_le x (h.aJ s))).trans (h.ρ s g x)⟩
theorem cD.le (X:cD C x y) (k:C.Le D):cD D x y:=by
 induction X with
 | v x=>exact .v x
 | agg cs a W _ J S=>exact .agg cs a W S J
 | QR n cap p N=>exact .QR n cap p N
 | sl n cs b off cap arr T fr N hb hle _ J S=>grind [sl,Ctx.Le.h]
 | cc n p=>exact .cc n p
 | cl n cs b off arr T fr hb hle _ J S=>grind [cl,Ctx.Le.h]
 | ip cs o b off arr T fr hb hle _ J S=>grind [ip,Ctx.Le.h]
 | ptr s g off b hg hb=>grind [ptr,Nat.lt_of_lt_of_le,Ctx.Le.aJ,Ctx.Le.ρ]
 | own s g hg ho=>rw[<- k.ρ s g hg];grind [own,Nat.lt_of_lt_of_le,Ctx.Le.aJ,Ctx.Le.ρ]
 | vw s g o n b cap hg hb N wR=>grind [vw,Nat.lt_of_lt_of_le,Ctx.Le.aJ,Ctx.Le.ρ]
 | mp s g hg ho=>rw[<- k.ρ s g hg];grind [mp,Nat.lt_of_lt_of_le,Ctx.Le.aJ,Ctx.Le.ρ]
 | rL f cs a W _ S=>exact .rL f cs a W S
 | cY cs a W _ S=>exact .cY cs a W S
structure dN (C:Ctx) (cs:List AV) (ys:List Value):Prop where
 len:cs.length=ys.length
 rel:∀(i:Nat) (x:AV) (y:Value),cs[i]? = some x->ys[i]? = some y->cD C x y
 one:∀(i:Nat) (y:Value),ys[i]? = some y->y.oneCell'=true
structure jD (C:Ctx) (cs:List AV) (ys:List Value):Prop where
 len:cs.length=ys.length
 rel:∀(i:Nat) (x:AV) (y:Value),cs[i]? = some x->ys[i]? = some y->cD C x y
theorem dN.le {C D:Ctx} {cs:List AV} {ys:List Value} (h:dN C cs ys) (k:C.Le D):dN D cs ys:=⟨h.len,fun i x y N Y=>(h.rel i x y N Y).le k,h.one⟩
theorem jD.le {C D:Ctx} {cs:List AV} {ys:List Value} (h:jD C cs ys) (k:C.Le D):jD D cs ys:=⟨h.len,fun i x y N Y=>(h.rel i x y N Y).le k⟩
def dN.oy (h:dN C cs ys):jD C cs ys:=⟨h.len,h.rel⟩
theorem dN.nil (C:Ctx):dN C [] []:=⟨rfl,qe,qe⟩
theorem jD.nil (C:Ctx):jD C [] []:=⟨rfl,qe⟩
theorem jD.cons (h:cD C x y) (k:jD C cs ys):jD C (x :: cs) (y :: ys) :=
 ⟨by simp[k.len],fun i a b ha hb=>by
  grind [rel]⟩
theorem jD.head (k:jD C (x :: cs) (y :: ys)):cD C x y:=k.rel 0 x y rfl rfl
def jD.tail (k:jD C (x :: cs) (y :: ys)):jD C cs ys :=
 ⟨by simpa using k.len,fun i a b Y hb=>k.rel (i+1) a b xn (by simpa using hb)⟩
theorem jD.app {D:List Value} (h:jD C cs ys) (k:jD C ds D):jD C (cs++ds) (ys++D):=by
 induction cs generalizing ys with
 | nil=>cases ys with
   | nil=>exact k
   | cons y ys=>have:=h.len;simp at this
 | cons c cs S=>cases ys with
   | nil=>have:=h.len;simp at this
   | cons y ys=>exact jD.cons h.head (S h.tail)
theorem jD.map {C:Ctx} {α:Type} (l:List α) (f:α->AV) (g:α->Value) (h:∀a∈l,cD C (f a) (g a)):jD C (l.map f) (l.map g):=by
 induction l<;>grind [nil,cons]
theorem dN.app {C:Ctx} {cs ds:List AV} {ys D:List Value} (h:dN C cs ys) (k:dN C ds D):dN C (cs++ds) (ys++D) :=
 ⟨(h.oy.app k.oy).len,(h.oy.app k.oy).rel,fun i y hy=>by
  grind [one]⟩
theorem dN.take {C:Ctx} {cs:List AV} {ys:List Value} (h:dN C cs ys) (n:Nat):dN C (cs.take n) (ys.take n):=by
 grind [mk,len,rel,one]
theorem dN.drop {C:Ctx} {cs:List AV} {ys:List Value} (h:dN C cs ys) (n:Nat):dN C (cs.drop n) (ys.drop n) :=
 ⟨by simp[h.len],fun i x y hx Y=>by grind [rel],fun i y Y=>by grind [one]⟩
theorem dN.vs (C:Ctx) (l:List Value) (J:∀y∈l,y.oneCell'=true):dN C (l.map .v) l :=
 ⟨qe,fun i x y hx Y=>by
  grind [cD.v],fun i y Y=>J y (mem_of_getElem? Y)⟩
def dN.single (h:cD C x y) (h1:y.oneCell'=true):dN C [x] [y] :=
 ⟨rfl,fun i a b ha hb=>by
  grind,fun i b hb=>by
  grind⟩
def Value.aCv (h:y.oneCell'=true):y.cells=#[y]:=by
 cases y<;>first|rfl|(simp[Value.oneCell'] at h;done)
def cD.XP (h:cD C x y) (hs:x.lL=true) (hn:∀cs,x≠.agg cs):y.oneCell'=true:=by
 cases h with
 | v=>exact hs
 | agg cs a W h h1=>grind
 | own s g hg p=>exact p
 | mp s g hg p=>exact p
 | cY cs a W h=>simp[AV.lL] at hs
 | _=>rfl
theorem cD.cells {C:Ctx} {x:AV} {y:Value} (h:cD C x y) (hs:x.lL=true):dN C x.cells y.cells.toList:=by
 by_cases M:∃cs,x=.agg cs
 ·obtain⟨cs,rfl⟩:=M
  cases h<;>grind [dN.mk,AV.cells,Value.cells]
 ·have G:∀cs,x≠.agg cs:=fun cs e=>M ⟨cs,e⟩
  have J:=h.XP hs G
  have N:x.cells=[x]:=by
   cases x<;>first|rfl|grind
  rw[N,Value.aCv J];exact .single h J
def kK (w:World) (base e sz:Nat) (v:Value) (n:Nat) (xs:List Value):Prop :=
 xs.length=n * sz/\((∃p,v=.slice p 0 0/\n=0) \/
  ∃g cap cur,v=.slice (some ⟨g,0,none⟩) n cap/\base<=g/\w.heap[g]? = some (.cells cur e (0,0))/\n<=cap/\cap<=maxLen/\cur.size=cap * sz/\cur.toList.take (n * sz)=xs/\0<cap)
theorem gK {a:Addr} {cap:Nat} (h:0<cap):cW (.slice (some a) n cap)=some a.block:=by
 cases cap with
 | zero=>omega
 | succ c=>rfl
theorem pH (p:Option Addr) (n:Nat):cW (.slice p n 0)=none:=by cases p<;>rfl
theorem yB {w:World} {e:Nat} (h:w.ownsRow base e sz v n xs):kK w base e sz v n xs:=by
 refine⟨h.1, ?_⟩
 rcases h.2 with ⟨rfl,rfl⟩|⟨g,cap,cur,rfl,J,h2,S,X,C,r⟩
 ·grind
 ·by_cases hc:cap=0
  ·grind
  ·exact .inr ⟨g,cap,cur,rfl,J,h2,S,X,C,r,WF⟩
def wX {w:World} {X e:Nat} (h:kK w b e sz v n xs) (hb:X<=b):kK w X e sz v n xs :=
 ⟨h.1,h.2.imp id fun ⟨g,cap,cur,J,h2,S⟩=>⟨g,cap,cur,J,Nat.le_trans hb h2,S⟩⟩
def As {w:World} {e:Nat} (h:kK w base e sz v n xs):∀b,cW v=some b->base<=b/\b<w.heap.size:=by
 intro b hb;rcases h.2 with ⟨p,rfl,_⟩|⟨g,cap,cur,rfl,h1,h2,_,_,_,_,hc⟩
 all_goals grind [pH,gK]
theorem pI {w:World} {e:Nat} (h:kK w base e sz v n xs):v.oneCell'=true:=by
 rcases h.2 with ⟨p,rfl,_⟩|⟨g,cap,cur,rfl,_⟩<;>rfl
def kK.kept {w:World} {e:Nat} {row:Option Nat} (h:kK w base e sz v n xs) (hg:w.grownBy w' row) (mC:cW v=none\/cW v≠row):kK w' base e sz v n xs:=by
 refine⟨h.1, ?_⟩
 rcases h.2 with h|⟨g,cap,cur,rfl,J,h2,S,X,C,r,G⟩
 ·exact .inl h
 ·refine .inr ⟨g,cap,cur,rfl,J, ?_,S,X,C,r,G⟩
  grind [gK,World.grownBy.block]
def Vv (C:Ctx):List (AV × AV)->List MapEntry->Prop
 | [],[]=>True
 | p :: es,m :: ms=>cD C p.1 m.key/\cD C p.2 m.val/\Vv C es ms
 | _,_=>False
theorem Vv.le {C D:Ctx} (k:C.Le D):∀ {es:List (AV × AV)} {ms:List MapEntry},Vv C es ms->Vv D es ms
 | [],[],_=>trivial
 | _ :: _,_ :: _,h=>⟨h.1.le k,h.2.1.le k,Vv.le k h.2.2⟩
 | [],_ :: _,h=>h.elim
 | _ :: _,[],h=>h.elim
def lU (C:Ctx) (w:World) (base:Nat) (v:Value):mH->Prop
 | .cells cs=>∃b arr T,v=.pointer (some ⟨b,0,none⟩)/\base<=b/\w.heap[b]? = some (.cells arr T (0,0))/\dN C cs arr.toList
 | .row e sz n cs=>∃xs,kK w base e sz v n xs/\dN C cs xs
 | .map es=>∃b arr clock,v=.map (some b)/\base<=b/\w.heap[b]? = some (.map arr clock)/\Vv C es arr.toList
def ctx (h0:Nat->Obj->Prop) (w0:World) (ρ:Nat->Nat->Value) (st:St) (w:World):Ctx where
 h:=fun b o=>w.heap[b]? = some o/\(b<w0.heap.size->h0 b o)/\∀s g e,st.heap s g=some e->cW (ρ s g)≠some b
 ρ:=ρ
 aJ:=st.aJ
structure Jb where
 fr:AV->Value->Prop
 hb:Nat->Obj->Prop
 sz:Nat
def Jb.none:Jb:=⟨fun _ _=>False,fun _ _=>False,0⟩
structure kI (F:Jb) (h0:Nat->Obj->Prop) (w0:World) (nt:Nat) (ρ:Nat->Nat->Value) (st:St) (a:Act) (w:World):Prop where
 env:∀t,cD (ctx h0 w0 ρ st w) (st.env t) (a.tmps.getD t undef)
 tG:∀s g e,st.heap s g=some e->g<st.aJ s/\(ρ s g).oneCell'=true/\lU (ctx h0 w0 ρ st w) w w0.heap.size (ρ s g) e
 inj:∀s g s' g' e e' b,st.heap s g=some e->st.heap s' g'=some e'->cW (ρ s g)=some b->cW (ρ s' g')=some b->s=s'/\g=g'
 ext:w0.grownBy w none
 size:nt<=a.tmps.size
 defers:a.defers=[]
 Rk:(∀x v,F.fr x v->cD (ctx h0 w0 ρ st w) x v)/\(∀b o,F.hb b o->(ctx h0 w0 ρ st w).h b o)/\F.sz<=w.heap.size
section
variable {h0:Nat->Obj->Prop} {w0:World} {F:Jb} {nt:Nat} {ρ:Nat->Nat->Value} {st:St} {a:Act} {w:World}
theorem BS (d:Option Nat) (x:AV):ctx h0 w0 ρ (st.put d x) w=ctx h0 w0 ρ st w:=jf
theorem DA (d:Option Nat) (x:AV):(st.put d x).heap=st.heap:=jf
theorem XQ (st:St) (d:Nat) (x:mH) (s g:Nat):(st.new d x).heap s g=if s=d/\g=st.aJ d then some x else st.heap s g:=rfl
theorem aCw (st:St) (D g0:Nat) (x:Option mH) (s g:Nat):(st.gV D g0 x).heap s g=if s=D/\g=g0 then x else st.heap s g:=rfl
theorem aA1 (d:Option Nat) (x:AV):(st.put d x).aJ=st.aJ:=jf
theorem kI.put (S:kI F h0 w0 nt ρ st a w) (d:Option Nat) {x:AV} {v:Value} (l:∀t,d=some t->t<nt) (h:cD (ctx h0 w0 ρ st w) x v) :
 kI F h0 w0 nt ρ (st.put d x) (a.put d v) w:=by
 refine⟨fun t=>?_,fun s g e he=>?_,fun s g D g' e e' b he R=>?_,S.ext, ?_, ?_,⟨fun x v h=>by rw[BS];exact S.Rk.1 x v h,fun b o h=>by rw[BS];exact S.Rk.2.1 b o h,S.Rk.2.2⟩⟩
 ·rw[BS];cases d with
  | none=>exact S.env t
  | some d =>
    have bB:d<a.tmps.size:=Nat.lt_of_lt_of_le (l d rfl) S.size
    simp only[St.put,Act.put];by_cases A:t=d
    ·simp_all
    ·rw[if_neg A];have:(a.tmps.setIfInBounds d v).getD t undef=a.tmps.getD t undef:=by
      simp[Array.getElem?_setIfInBounds_ne (Ne.symm A)]
     grind [env]
 ·rw[DA] at he;rw[BS,aA1];exact S.tG s g e he
 ·rw[DA] at he R;exact S.inj s g D g' e e' b he R
 ·cases d<;>simp[Act.put,S.size]
 ·cases d<;>exact S.defers
theorem yC {w u X:World} (h:w.grownBy u none) (k:u.grownBy X r) (hr:∀b,r=some b->w.heap.size<=b):w.grownBy X none :=
 ⟨k.os.trans h.os,k.tape.trans h.tape,k.output.trans h.output,Nat.le_trans h.size k.size,fun b hb _=>by
  rw[k.block b (Nat.lt_of_lt_of_le hb h.size) (fun e=>qg)]
  exact h.block b hb qe⟩
theorem lU.world {w:World} (h:lU C w base v e) (k:C.Le D) (hg:w.grownBy w' r) (X:cW v=none\/cW v≠r):lU D w' base v e:=by
 cases e with
 | cells cs =>
   obtain⟨b,arr,T,rfl,hb,u,G⟩:=h
   refine⟨b,arr,T,rfl,hb, ?_,G.le k⟩
   grind [cW,World.grownBy.block]
 | row e sz n cs =>
   obtain⟨xs,p,G⟩:=h
   exact⟨xs,p.kept hg X,G.le k⟩
 | map es =>
   obtain⟨b,arr,clock,rfl,hb,u,G⟩:=h
   refine⟨b,arr,clock,rfl,hb, ?_,G.le k⟩
   grind [cW,World.grownBy.block]
theorem lU.KO {w:World} (h:lU C w base v e):∀b,cW v=some b->base<=b/\b<w.heap.size:=by
 intro b hb;cases e with
 | cells cs =>
   obtain⟨X,arr,T,rfl,r,u,G⟩:=h
   grind [cW]
 | row e sz n cs =>
   obtain⟨xs,p,G⟩:=h
   exact As p b hb
 | map es =>
   obtain⟨X,arr,clock,rfl,r,u,_⟩:=h
   grind [cW]
theorem kI.grow (S:kI F h0 w0 nt ρ st a w) (hg:w.grownBy w' none):kI F h0 w0 nt ρ st a w'/\(ctx h0 w0 ρ st w).Le (ctx h0 w0 ρ st w'):=by
 have k:(ctx h0 w0 ρ st w).Le (ctx h0 w0 ρ st w'):=⟨fun b o hb=>⟨by
  rw[hg.block b (Array.getElem?_eq_some_iff.1 hb.1).1 qe];exact hb.1,hb.2.1,hb.2.2⟩,fun _=>Nat.le_refl _,fun _ _ _=>rfl⟩
 exact⟨⟨fun t=>(S.env t).le k,fun s g e he=>⟨(S.tG s g e he).1,(S.tG s g e he).2.1,(S.tG s g e he).2.2.world k hg (by cases cW (ρ s g)<;>simp)⟩,S.inj,yC S.ext hg qe,S.size,S.defers,⟨fun x v h=>(S.Rk.1 x v h).le k,fun b o h=>k.h b o (S.Rk.2.1 b o h),Nat.le_trans S.Rk.2.2 hg.size⟩⟩,k⟩
def sD (ρ:Nat->Nat->Value) (d g:Nat) (v:Value):Nat->Nat->Value:=fun D g'=>if D=d/\g'=g then v else ρ D g'
theorem jI (S:kI F h0 w0 nt ρ st a w) (he:st.heap s g=some e) (hb:w.heap.size<=b):cW (ρ s g)≠some b:=by
 intro h;have:=((S.tG s g e he).2.2.KO b h).2
 omega
def Ir (ρ:Nat->Nat->Value) (d c:Nat) (vs:List Value):Nat->Nat->Value:=fun D g'=>if D=d/\c<=g'/\g' - c<vs.length then vs.getD (g' - c) undef else ρ D g'
theorem kI.news (S:kI F h0 w0 nt ρ st a w) {w':World} (hg:w.grownBy w' none) (d:Nat) (xs:List mH) (vs:List Value) (hl:xs.length=vs.length) (h1:∀v∈vs,v.oneCell'=true)
 (Pm:∀v∈vs,∀b,cW v=some b->w.heap.size<=b)
 (hinj:∀(i j:Nat) (x y:Value) (b:Nat),vs[i]? = some x->vs[j]? = some y->cW x=some b->cW y=some b->i=j)
 (N:∀C,(ctx h0 w0 ρ st w).Le C->(∀b o,w.heap.size<=b->w'.heap[b]? = some o->(∀v∈vs,cW v≠some b)->C.h b o) ->
  (∀(i:Nat) (x:Value),vs[i]? = some x->st.aJ d+i<C.aJ d/\C.ρ d (st.aJ d+i)=x)->∀(i:Nat) (e:mH) (x:Value),xs[i]? = some e->vs[i]? = some x->lU C w' w0.heap.size x e) :
 kI F h0 w0 nt (Ir ρ d (st.aJ d) vs) (st.news d xs) a w'/\(ctx h0 w0 ρ st w).Le (ctx h0 w0 (Ir ρ d (st.aJ d) vs) (st.news d xs) w') /\
  (∀b o,w.heap.size<=b->w'.heap[b]? = some o->(∀v∈vs,cW v≠some b)->(ctx h0 w0 (Ir ρ d (st.aJ d) vs) (st.news d xs) w').h b o) /\
  (∀(i:Nat) (x:Value),vs[i]? = some x->st.aJ d+i<(st.news d xs).aJ d/\Ir ρ d (st.aJ d) vs d (st.aJ d+i)=x):=by
 have hold:∀s g,g<st.aJ s->Ir ρ d (st.aJ d) vs s g=ρ s g:=fun s g A=>by
  grind [Ir]
 have hcd:(st.news d xs).aJ d=st.aJ d+xs.length:=by simp[St.news]
 have W:∀(i:Nat) (x:Value),vs[i]? = some x->st.aJ d+i<(st.news d xs).aJ d/\Ir ρ d (st.aJ d) vs d (st.aJ d+i)=x:=fun i x hi=>by
  grind [Ir]
 have X:∀s g e,(st.news d xs).heap s g=some e->(∃i x,s=d/\g=st.aJ d+i/\xs[i]? = some e/\vs[i]? = some x)\/st.heap s g=some e:=fun s g e he=>by
  simp only[St.news] at he;split at he
  ·rename_i G;obtain⟨rfl,c1,c2⟩:=G
   exact .inl ⟨g-st.aJ s,vs[g-st.aJ s]' WF,rfl,WF,he,qe⟩
  ·exact .inr he
 have k:(ctx h0 w0 ρ st w).Le (ctx h0 w0 (Ir ρ d (st.aJ d) vs) (st.news d xs) w'):=by
  refine⟨fun b o hb=>⟨?_,hb.2.1,fun s g e he=>?_⟩,fun s=>?_,hold⟩
  ·rw[hg.block b (Array.getElem?_eq_some_iff.1 hb.1).1 qe];exact hb.1
  ·rcases X s g e he with ⟨i,x,rfl,rfl,_,hi⟩|he
   ·rw[(W i x hi).2];intro m;have:=Pm x (mem_of_getElem? hi) b m
    have:=(Array.getElem?_eq_some_iff.1 hb.1).1
    omega
   ·rw[hold s g (S.tG s g e he).1];exact hb.2.2 s g e he
  grind [ctx,St.news]
 have u:∀b o,w.heap.size<=b->w'.heap[b]? = some o->(∀v∈vs,cW v≠some b)->(ctx h0 w0 (Ir ρ d (st.aJ d) vs) (st.news d xs) w').h b o:=fun b o hb p mC =>
  ⟨p,fun A=>ni,fun s g e he=>by
   rcases X s g e he with ⟨i,x,rfl,rfl,_,hi⟩|he
   ·grind
   ·rw[hold s g (S.tG s g e he).1];exact jI S he hb⟩
 refine⟨⟨fun t=>(S.env t).le k,fun s g e he=>?_,fun s g D g' e e' b he R hb r=>?_,yC S.ext hg qe,S.size,S.defers,⟨fun x v h=>(S.Rk.1 x v h).le k,fun b o h=>k.h b o (S.Rk.2.1 b o h),Nat.le_trans S.Rk.2.2 hg.size⟩⟩,k,u,W⟩
 ·rcases X s g e he with ⟨i,x,rfl,rfl,hxi,hi⟩|he
  ·refine⟨(W i x hi).1,qg, ?_⟩
   rw[(W i x hi).2];exact N _ k u W i e x hxi hi
  ·obtain⟨e1,e2,e3⟩:=S.tG s g e he
   grind [St.news,lU.world]
 ·rcases X s g e he with ⟨i,x,rfl,rfl,_,hi⟩|hq<;>rcases X D g' e' R with ⟨j,y,rfl,rfl,_,Y⟩|J
  ·grind
  ·rw[(W i x hi).2] at hb;rw[hold D g' (S.tG D g' e' J).1] at r
   grind [jI]
  ·rw[(W j y Y).2] at r
   rw[hold s g (S.tG s g e hq).1] at hb;grind [jI]
  ·rw[hold s g (S.tG s g e hq).1] at hb;rw[hold D g' (S.tG D g' e' J).1] at r
   exact S.inj s g D g' e e' b hq J hb r
theorem DB (st:St) (d:Nat) (e:mH):st.news d [e]=st.new d e:=by
 grind [St.news,St.new]
theorem kI.new (S:kI F h0 w0 nt ρ st a w) {w':World} (hg:w.grownBy w' none) (d:Nat) (x:mH) (v:Value) (J:v.oneCell'=true)
 (Y:∀b,cW v=some b->w.heap.size<=b)
 (N:∀C,(ctx h0 w0 ρ st w).Le C->(∀b o,w.heap.size<=b->w'.heap[b]? = some o->cW v≠some b->C.h b o)->lU C w' w0.heap.size v x) :
 kI F h0 w0 nt (sD ρ d (st.aJ d) v) (st.new d x) a w'/\(ctx h0 w0 ρ st w).Le (ctx h0 w0 (sD ρ d (st.aJ d) v) (st.new d x) w')/\sD ρ d (st.aJ d) v d (st.aJ d)=v:=by
 have hold:∀s g,g<st.aJ s->sD ρ d (st.aJ d) v s g=ρ s g:=fun s g A=>by
  grind [sD]
 have W:sD ρ d (st.aJ d) v d (st.aJ d)=v:=by simp[sD]
 have k:(ctx h0 w0 ρ st w).Le (ctx h0 w0 (sD ρ d (st.aJ d) v) (st.new d x) w'):=by
  refine⟨fun b o hb=>⟨?_,hb.2.1,fun s g e he=>?_⟩,fun s=>?_,hold⟩
  ·rw[hg.block b (Array.getElem?_eq_some_iff.1 hb.1).1 qe];exact hb.1
  ·simp only[St.new] at he;split at he
   ·rename_i G;obtain⟨rfl,rfl⟩:=G
    rw[W];intro m;have:=Y b m
    have:=(Array.getElem?_eq_some_iff.1 hb.1).1
    omega
   ·rw[hold s g (S.tG s g e he).1];exact hb.2.2 s g e he
  grind [ctx,St.new]
 refine⟨⟨fun t=>(S.env t).le k,fun s g e he=>?_,fun s g D g' e e' b he R hb r=>?_,yC S.ext hg qe,S.size,S.defers,⟨fun x v h=>(S.Rk.1 x v h).le k,fun b o h=>k.h b o (S.Rk.2.1 b o h),Nat.le_trans S.Rk.2.2 hg.size⟩⟩,k,W⟩
 ·simp only[St.new] at he;split at he
  ·rename_i G;obtain⟨rfl,rfl⟩:=G
   cases he
   refine⟨by simp[St.new],by rw[W];exact J, ?_⟩
   rw[W];refine N _ k fun b o hb p mC=>⟨p,fun A=>ni,fun s2 g2 M u=>?_⟩
   rw[XQ] at u;by_cases G:s2=s/\g2=st.aJ s
   ·grind
   ·rw[if_neg G] at u;rw[hold s2 g2 (S.tG s2 g2 M u).1];exact jI S u hb
  ·obtain⟨e1,M,e3⟩:=S.tG s g e he
   grind [St.new,lU.world]
 ·simp only[St.new] at he R
  split at he
  ·rename_i G;obtain⟨rfl,rfl⟩:=G
   split at R
   ·omega
   ·rw[W] at hb;rw[hold D g' (S.tG D g' e' R).1] at r
    grind [jI]
  ·split at R
   ·rename_i X
    obtain⟨rfl,rfl⟩:=X
    rw[W] at r
    rw[hold s g (S.tG s g e he).1] at hb;grind [jI]
   ·rw[hold s g (S.tG s g e he).1] at hb;rw[hold D g' (S.tG D g' e' R).1] at r
    exact S.inj s g D g' e e' b he R hb r
theorem kI.aE3 (S:kI F h0 w0 nt ρ st a w) (he:st.heap s g=some e) (hg:w.grownBy w' (cW (ρ s g)))
 (N:∀C,(ctx h0 w0 ρ st w).Le C->lU C w' w0.heap.size (ρ s g) e') :
 kI F h0 w0 nt ρ (st.gV s g (some e')) a w':=by
 have k:(ctx h0 w0 ρ st w).Le (ctx h0 w0 ρ (st.gV s g (some e')) w'):=by
  refine⟨fun X o r=>⟨?_,r.2.1,fun D g' e'' h=>?_⟩,fun _=>Nat.le_refl _,fun _ _ _=>rfl⟩
  ·rw[hg.block X (Array.getElem?_eq_some_iff.1 r.1).1 (fun h=>r.2.2 s g e he h.symm)];exact r.1
  ·simp only[St.gV] at h;split at h
   ·rename_i G;obtain⟨rfl,rfl⟩:=G;exact r.2.2 _ _ e he
   ·exact r.2.2 _ _ _ h
 refine⟨fun t=>(S.env t).le k,fun D g' x h=>?_,fun s1 g1 s2 g2 A M X J h2 p R=>?_,yC S.ext hg (fun b hb=>((S.tG s g e he).2.2.KO b hb).1),S.size,S.defers,⟨fun x v h=>(S.Rk.1 x v h).le k,fun b o h=>k.h b o (S.Rk.2.1 b o h),Nat.le_trans S.Rk.2.2 hg.size⟩⟩
 ·simp only[St.gV] at h;split at h
  ·rename_i G
   obtain⟨rfl,rfl⟩:=G
   cases h
   exact⟨(S.tG _ _ e he).1,(S.tG _ _ e he).2.1,N _ k⟩
  ·rename_i G
   obtain⟨x1,x2,x3⟩:=S.tG _ _ _ h
   refine⟨x1,x2,x3.world k hg ?_⟩
   cases l:cW (ρ D g') with
   | none=>exact .inl rfl
   | some b =>
     right
     intro hq;exact G (S.inj _ _ _ _ _ _ b h he l hq.symm)
 ·have old:∀s1 g1 A,(st.gV s g (some e')).heap s1 g1=some A->∃M,st.heap s1 g1=some M:=fun s1 g1 A h=>by
   grind [St.gV]
  obtain⟨x1,y1⟩:=old _ _ _ J
  obtain⟨x2,Y⟩:=old _ _ _ h2
  exact S.inj _ _ _ _ _ _ X y1 Y p R
theorem kI.store (S:kI F h0 w0 nt ρ st a w) (he:st.heap s g=some e) (hb:cW (ρ s g)=some b) (hg:w.grownBy w' (some b))
 (N:∀C,(ctx h0 w0 ρ st w).Le C->lU C w' w0.heap.size (ρ s g) e') :
 kI F h0 w0 nt ρ (st.gV s g (some e')) a w':=S.aE3 he (by rw[hb];exact hg) N
theorem kI.QS (S:kI F h0 w0 nt ρ st a w) (he:st.heap s g=some e) (hg:w.grownBy w' (cW (ρ s g))) (d:Nat) (x:mH) (v:Value) (J:v.oneCell'=true)
 (Y:∀b,cW v=some b->cW (ρ s g)=some b\/w.heap.size<=b)
 (hx:∀C,(ctx h0 w0 ρ st w).Le C->lU C w' w0.heap.size v x) :
 kI F h0 w0 nt (sD ρ d (st.aJ d) v) ((st.gV s g none).new d x) a w'/\(ctx h0 w0 ρ st w).Le (ctx h0 w0 (sD ρ d (st.aJ d) v) ((st.gV s g none).new d x) w')/\sD ρ d (st.aJ d) v d (st.aJ d)=v:=by
 have N5:∀b,cW (ρ s g)=some b->w0.heap.size<=b:=fun b hb=>((S.tG s g e he).2.2.KO b hb).1
 have hold:∀s g,g<st.aJ s->sD ρ d (st.aJ d) v s g=ρ s g:=fun s g bB=>by
  grind [sD]
 have W:sD ρ d (st.aJ d) v d (st.aJ d)=v:=by simp[sD]
 have X:∀s1 g1 A,((st.gV s g none).new d x).heap s1 g1=some A->(s1=d/\g1=st.aJ d/\A=x)\/(st.heap s1 g1=some A/\¬(s1=s/\g1=g)):=fun s1 g1 A h=>by
  grind [XQ,St.gV,aCw]
 have k:(ctx h0 w0 ρ st w).Le (ctx h0 w0 (sD ρ d (st.aJ d) v) ((st.gV s g none).new d x) w'):=by
  refine⟨fun b o hb=>⟨?_,hb.2.1,fun s1 g1 A h=>?_⟩,fun s=>?_,hold⟩
  ·rw[hg.block b (Array.getElem?_eq_some_iff.1 hb.1).1 (fun h=>hb.2.2 s g e he h.symm)];exact hb.1
  ·rcases X _ _ _ h with ⟨rfl,rfl,rfl⟩|⟨h,_⟩
   ·rw[W];intro m;rcases Y b m with G|G
    ·exact hb.2.2 s g e he G
    ·have:=(Array.getElem?_eq_some_iff.1 hb.1).1
     omega
   ·rw[hold _ _ (S.tG _ _ _ h).1];exact hb.2.2 _ _ _ h
  ·simp only[ctx,St.new,St.gV];grind
 refine⟨⟨fun t=>(S.env t).le k,fun s1 g1 A h=>?_,fun s1 g1 s2 g2 A e2 b u D p R=>?_,yC S.ext hg N5,S.size,S.defers,⟨fun x v h=>(S.Rk.1 x v h).le k,fun b o h=>k.h b o (S.Rk.2.1 b o h),Nat.le_trans S.Rk.2.2 hg.size⟩⟩,k,W⟩
 ·rcases X _ _ _ h with ⟨rfl,rfl,rfl⟩|⟨h,M⟩
  ·simp_all [St.new,St.gV]
  ·obtain⟨x1,x2,x3⟩:=S.tG _ _ _ h
   refine⟨by simp only[St.new,St.gV];grind,qg, ?_⟩
   rw[hold _ _ x1];refine x3.world k hg ?_
   cases l:cW (ρ s1 g1) with
   | none=>exact .inl rfl
   | some b1 =>
     right
     intro heq;exact M (S.inj _ _ _ _ _ _ b1 h he l heq.symm)
 ·rcases X _ _ _ u with ⟨rfl,rfl,rfl⟩|⟨J,n1⟩<;>rcases X _ _ _ D with ⟨rfl,rfl,rfl⟩|⟨h2,N⟩<;>clear u D
  ·omega
  ·rw[W] at p;rw[hold _ _ (S.tG _ _ _ h2).1] at R;rcases Y b p with G|G
   ·exact absurd (S.inj _ _ _ _ _ _ b h2 he R G) N
   grind [jI]
  ·rw[W] at R;rw[hold _ _ (S.tG _ _ _ J).1] at p;rcases Y b R with G|G
   ·exact absurd (S.inj _ _ _ _ _ _ b J he p G) n1
   grind [jI]
  ·rw[hold _ _ (S.tG _ _ _ J).1] at p;rw[hold _ _ (S.tG _ _ _ h2).1] at R;exact S.inj _ _ _ _ _ _ b J h2 p R
end
end Go.Ab
end
section
namespace Go.Ab
open Classical
variable {t d D:Nat} {i:TypeInfo} {m:List Bool}
def gE:List Bool->List Value->List Value->Prop
 | [],[],[]=>True
 | true :: l,.int k _ :: xs,.int A _ :: ys=>k=A/\gE l xs ys
 | false :: l,.bool _ :: xs,.bool _ :: ys=>gE l xs ys
 | _,_,_=>False
theorem Ew:∀(l:List Bool) (xs ys:List AV),mA l xs ys->∃us vs,xs=us.map .v/\ys=vs.map .v/\gE l us vs
 | [],[],[],_=>⟨[],[],rfl,rfl,trivial⟩
 | true :: l,.v (.int k a) :: xs,.v (.int A b) :: ys,h=>by
   obtain⟨us,vs,rfl,rfl,G⟩:=Ew l xs ys h.2
   exact⟨.int k a :: us,.int A b :: vs,rfl,rfl,h.1,G⟩
 | false :: l,.v (.bool a) :: xs,.v (.bool b) :: ys,h=>by
   obtain⟨us,vs,rfl,rfl,G⟩:=Ew l xs ys h
   exact⟨.bool a :: us,.bool b :: vs,rfl,rfl,G⟩
def lV:∀(l:List Bool) (us vs:List Value),gE l us vs->us.length=l.length/\vs.length=l.length
 | [],[],[],_=>⟨rfl,rfl⟩
 | true :: l,.int k a :: xs,.int k' b :: ys,h=>by have:=lV l xs ys h.2;grind
 | false :: l,.bool a :: xs,.bool b :: ys,h=>by have:=lV l xs ys h;grind
def DC (l m:List Bool):∀(us vs:List Value),gE (l++m) us vs->gE l (us.take l.length) (vs.take l.length)/\gE m (us.drop l.length) (vs.drop l.length):=by
 induction l with
 | nil=>grind [gE]
 | cons b l S =>
   intro us vs h;cases b<;>cases us with
   | nil=>simp[gE] at h
   | cons u us=>cases vs with
     | nil=>cases u<;>simp[gE] at h
     | cons v vs=>cases u<;>cases v<;>simp[gE] at h<;>(have:=S us vs qg;simp[gE,this.1,this.2])<;>(try exact h.1)
def mk (agg:Bool) (us:List Value):Value:=if agg=true then .agg us.toArray else us.headD undef
section
variable {P:Program} (w:World)
theorem Mg {d:TypeDesc} (h:P.underlying t=some d):(isAgg t).run P w=.ok (dV P t) w:=by
 simp only[isAgg,underlying,Sem.run_bind,run_program,Result.andThen_ok,h,Sem.run_pure,dV];cases d<;>rfl
theorem run_sizeOf (h:P.info? t=some i):(sizeOf t).run P w=.ok i.size w:=by
 simp[sizeOf,typeInfo,h]
theorem Dw {z:Value} (h:P.info? t=some i) (R:i.zero=some z):(zeroValue t).run P w=.ok z w:=by
 simp[zeroValue,typeInfo,h,R]
theorem vR (h:P.info? t=some i):P.cellsOf t=i.size:=by simp[Program.cellsOf,h]
theorem Jr {d:TypeDesc} (h:P.underlying t=some d) (hi:P.info? t=some i) (us:List Value) (off:Nat) (J:dV P t=false->i.size=1) (hl:off+i.size<=us.length) :
 (part t us.toArray off).run P w=.ok (mk (dV P t) ((us.drop off).take i.size)) w:=by
 unfold part;simp only[Sem.run_bind,Mg w h,Result.andThen_ok];cases hb:dV P t with
 | true =>
   grind [Sem.run_bind,Result.andThen_ok,Sem.run_pure,mk,run_sizeOf]
 | false =>
   have:=J hb
   have A:off<us.length:=WF
   simp[A,mk,this,take_one]
theorem pJ:∀(d t:Nat) (m:List Bool),fG P d t=some m->dV P t=false->m.length=1
 | 0,_,_,h,_=>by simp[fG] at h
 | d+1,t,m,h,hp=>by
   grind [fG,dV]
theorem AA {k:TypeDesc} (h:P.underlying t=some k):∃i,P.info? t=some i:=info_of_underlying h
theorem zM:∀(d t:Nat) (m:List Bool),fG P d t=some m->∃k,P.underlying t=some k
 | 0,_,_,h=>by simp[fG] at h
 | d+1,t,m,h=>by
   grind [fG]
def BT (P:Program) (D d:Nat):Prop :=
 ∀(w:World) (t:Nat) (m:List Bool),fG P d t=some m->∀us vs,gE m us vs ->
  (Op.equalIn D t (mk (dV P t) us) (mk (dV P t) vs)).run P w=.ok (decide (us=vs)) w
theorem aA2 (S:BT P D d) (hm:fG P d t=some m) (G:P.cellsOf t=m.length) {us vs:List Value} {off:Nat}
 (W:gE m ((us.drop off).take m.length) ((vs.drop off).take m.length)) :
 ∃a b,(part t us.toArray off).run P w=.ok a w/\(part t vs.toArray off).run P w=.ok b w/\(Op.equalIn D t a b).run P w=.ok (decide ((us.drop off).take m.length=(vs.drop off).take m.length)) w:=by
 obtain⟨k,R⟩:=zM d t m hm
 obtain⟨i,hi⟩:=AA R
 have hs:i.size=m.length:=by rw[<- G,vR hi]
 have J:dV P t=false->i.size=1:=fun h=>by grind [pJ]
 have lens:=lV _ _ _ W
 simp only[length_take,length_drop] at lens;by_cases hz:m.length=0
 ·have uH:dV P t=true:=by
   grind
  refine⟨.agg #[],.agg #[], ?_, ?_, ?_⟩
  ·simp_all [part,Mg,run_sizeOf]
  ·simp_all [part,Mg,run_sizeOf]
  ·have:=S w t m hm _ _ W
   grind [mk]
 ·have A:=Jr w R hi us off J WF
  have M:=Jr w R hi vs off J WF
  refine⟨_,_,A,M, ?_⟩
  have:=S w t m hm _ _ W
  grind
theorem DD (us:List Value) (off n:Nat):us.drop off=(us.drop off).take n++us.drop (off+n):=by
 rw[<- drop_drop,take_append_drop]
theorem Js {D d:Nat} (S:BT P D d) (us vs:List Value):∀(M:List Field) (off:Nat) (l:List Bool),Mf P (fG P d) M off=some l ->
 gE l (us.drop off) (vs.drop off)->(Op.eqFields D us.toArray vs.toArray M).run P w=.ok (decide (us.drop off=vs.drop off)) w
 | [],off,l,W,C=>by
   simp[Mf] at W
   subst W;have:=lV _ _ _ C
   rw[length_eq_zero_iff.1 this.1,length_eq_zero_iff.1 this.2];simp[Op.eqFields]
 | f :: M,off,l,W,C=>by
   unfold Mf at W;cases hm:fG P d f.type with
   | none=>simp[hm] at W
   | some m =>
     simp only[hm] at W;split at W
     ·rename_i G;obtain⟨c1,c2,c3,c4⟩:=G
      cases X:Mf P (fG P d) M (off+m.length) with
      | none=>simp[X] at W
      | some l' =>
        simp[X] at W
        subst W;obtain⟨v1,v2⟩:=DC m l' _ _ C
        rw[drop_drop,drop_drop] at v2;obtain⟨a,b,p1,J,N⟩:=aA2 w S hm c3 v1
        have ih:=Js S us vs M (off+m.length) l' X v2
        subst c2;simp only[Op.eqFields,c1,ne_eq,not_false_eq_true,if_true,Sem.run_bind,p1,J,N,Result.andThen_ok];have iff:(us.drop f.offset=vs.drop f.offset)↔((us.drop f.offset).take m.length=(vs.drop f.offset).take m.length/\us.drop (f.offset+m.length)=vs.drop (f.offset+m.length)):=by
         constructor
         ·intro h;refine⟨yi, ?_⟩
          rw[<- drop_drop,<- drop_drop,h]
         grind [DD]
        by_cases h:(us.drop f.offset).take m.length=(vs.drop f.offset).take m.length
        all_goals simp_all
     ·cases W
theorem Ou {D d:Nat} (S:BT P D d) {e:Nat} {m:List Bool} (hm:fG P d e=some m) (G:P.cellsOf e=m.length) (us vs:List Value):∀(n k:Nat),
 gE ((List.range n).flatMap fun _=>m) (us.drop (k * m.length)) (vs.drop (k * m.length)) ->
 (Op.eqItems D e m.length us.toArray vs.toArray ((List.range n).map (k + ·))).run P w=.ok (decide (us.drop (k * m.length)=vs.drop (k * m.length))) w
 | 0,k,C=>by
   have:=lV _ _ _ C
   simp only[range_zero,flatMap_nil,length_nil] at this;rw[length_eq_zero_iff.1 this.1,length_eq_zero_iff.1 this.2];simp[Op.eqItems]
 | n+1,k,C=>by
   rw[range_succ_eq_map] at C ⊢;simp only[flatMap_cons,flatMap_map] at C;obtain⟨v1,v2⟩:=DC m _ _ _ C
   rw[drop_drop,drop_drop,show k * m.length+m.length=(k+1) * m.length from qg] at v2
   obtain⟨a,b,X,J,N⟩:=aA2 w S hm G v1
   have ih:=Ou S hm G us vs n (k+1) v2
   simp only[map_cons,Nat.add_zero,map_map,Op.eqItems,Sem.run_bind,X,J,N,Result.andThen_ok];have A:(List.range n).map ((k + ·) ∘ Nat.succ)=(List.range n).map (k+1 + ·):=by
    grind [map_congr_left]
   rw[A];have iff:(us.drop (k * m.length)=vs.drop (k * m.length))↔((us.drop (k * m.length)).take m.length=(vs.drop (k * m.length)).take m.length/\us.drop ((k+1) * m.length)=vs.drop ((k+1) * m.length)):=by
    rw[show (k+1) * m.length=k * m.length+m.length from qg]
    constructor
    ·intro h;refine⟨yi, ?_⟩
     rw[<- drop_drop,<- drop_drop,h]
    grind [DD]
   by_cases h:(us.drop (k * m.length)).take m.length=(vs.drop (k * m.length)).take m.length
   all_goals simp_all
theorem Dx:∀(d D:Nat),d<=D->BT P D d
 | 0,_,_=>fun w t m hm=>by simp[fG] at hm
 | d+1,0,h=>absurd h WF
 | d+1,D+1,h=>by
   intro w t m hm us vs C;have S:=Dx d D WF
   unfold fG at hm;cases hu:P.underlying t with
   | none=>simp[hu] at hm
   | some k =>
     cases k<;>simp only[hu] at hm<;>(try (cases hm;done))
     case bool =>
      cases hm
      have N:dV P t=false:=by simp[dV,hu]
      cases us with
      | nil=>simp[gE] at C
      | cons u us=>cases vs with
        | nil=>cases u<;>simp[gE] at C
        | cons v vs =>
          cases u<;>cases v<;>simp[gE] at C
          cases us<;>cases vs<;>simp[gE] at C
          rename_i a b;simp[N,mk,run_equalIn_bool' w D t a b hu]
          grind
     case int q =>
      cases hm
      have N:dV P t=false:=by simp[dV,hu]
      cases us with
      | nil=>simp[gE] at C
      | cons u us=>cases vs with
        | nil=>cases u<;>simp[gE] at C
        | cons v vs =>
          cases u<;>cases v<;>simp[gE] at C
          cases us<;>cases vs<;>simp[gE] at C
          rename_i k1 a k2 b;subst C;simp[N,mk,run_equalIn_int w D t k1 q a b hu]
          grind
     case struct M =>
      have N:dV P t=true:=by simp[dV,hu]
      split at hm
      ·cases hm
      ·rename_i p;have r:P.fieldsOf t=M:=by simp[Program.fieldsOf,hu]
       rw[N];simp only[mk,if_true];rw[run_equalIn_struct w D t _ _ (by rw[r];exact hu) ve,r]
       have:=Js w S us vs M.toList 0 m hm jb
       simpa using this
     case array n e =>
      have N:dV P t=true:=by simp[dV,hu]
      cases X:fG P d e with
      | none=>simp[X] at hm
      | some l =>
        simp only[X] at hm;split at hm
        ·rename_i G;cases hm
         obtain⟨i,hi⟩:=Option.isSome_iff_exists.1 G.2
         rw[N];simp only[mk,if_true];rw[run_equalIn_array w D _ _ hu hi];have:=Ou w S X G.1 us vs n 0 jb
         simp_all
        ·cases hm
end
end Go.Ab
end
section
namespace Go.Ab
open Classical
variable {C:Ctx} {y u v:Value} {T n k sz:Nat} {b:Bool} {op:BinOp} {z x:AV} {d:TypeDesc} {cs:List AV}
section
variable {P:Program} {h0:Nat->Obj->Prop} {w0:World} {F:Jb} {nt:Nat} {ρ:Nat->Nat->Value} {st:St} {a:Act} {w:World}
theorem kI.ev (S:kI F h0 w0 nt ρ st a w) (x:Operand):cD (ctx h0 w0 ρ st w) (st.ev x) (a.eval x):=by
 cases x with
 | tmp t=>exact S.env t
 | const v=>exact .v v
 | global g=>exact .v _
 | func f=>exact .v _
theorem iM {x:Value} (h:cD C (.v x) y):y=x:=by cases h;rfl
theorem NY (us vs:List Value):us.map AV.v=vs.map AV.v↔us=vs:=by
 constructor
 ·intro h;induction us generalizing vs with
  | nil=>simp_all
  | cons u us ih=>cases vs<;>grind
 ·intro h;rw[h]
theorem Dc {us:List Value} (h:cD C (.agg (us.map .v)) y):y=.agg us.toArray:=by
 cases h with
 | agg cs a hl X h1 =>
   congr 1
   apply Array.ext'
   simp only
   apply ext_getElem?
   intro i;by_cases hi:i<us.length
   ·have Y:i<a.size:=qg
    have:=X i (.v us[i]) a[i] zq (by simp[Y])
    grind [iM]
   grind
theorem iF {α β:Type} {x:Sem α} {f:α->Sem β} {v:α} {w w':World} (h:x.run P w=.ok v w'):(x >>= f).run P w=(f v).run P w':=by
 simp_all
theorem Ys (op:BinOp) (A:op=.eql\/op=.neq) {xs ys:List AV} (X Y:Operand) (h:Im P T xs ys=some b)
 (hu:cD C (.agg xs) u) (hv:cD C (.agg ys) v) :
 (do eqGuard op T X Y u v;binOp op T u v:Sem Value).run P w=.ok (.bool (if op=.eql then b else !b)) w:=by
 unfold Im at h;cases hl:fG P 20 T with
 | none=>simp[hl] at h
 | some l =>
   simp only[hl] at h;split at h
   ·rename_i G;obtain⟨N,hg,W⟩:=G
    simp only[cQ] at h;obtain⟨us,vs,rfl,rfl,M⟩:=Ew _ _ _ W
    have D:=Dc hu
    have ev:=Dc hv
    subst D;subst ev;obtain⟨k,hk⟩:=zM 20 T l hl
    have he:=Dx (P:=P) 20 10000 WF w T l hl us vs M
    rw[N] at he;simp only[mk,if_true] at he;have J:=run_eqGuard_agg (P:=P) w op T X Y us.toArray vs.toArray hg
    rw[iF J];have hd:decide (us=vs)=b:=by
     grind [NY]
    rcases A with rfl|rfl
    all_goals simp_all [run_eql_struct,run_neq_struct]
   ·cases h
theorem Ru {p:Option Addr} {cap:Nat} (X Y:Operand) (h:Gv P op T b=some z) (hb:p.isNone=b:=by rfl) :
 ∃r,(do eqGuard op T X Y (.slice p n cap) (.slice none 0 0);binOp op T (.slice p n cap) (.slice none 0 0):Sem Value).run P w=.ok r w/\cD C z r:=by
 unfold Gv at h;split at h
 ·rename_i e hT;have J:(eqGuard op T X Y (.slice p n cap) (.slice none 0 0)).run P w=.ok () w:=by
   cases op<;>simp[eqGuard]
  rw[iF J];have he:=run_equal_slice_nil (P:=P) w T e p n cap hT
  rw[hb] at he;cases op<;>simp only at h<;>(try (cases h;done))<;>simp only[cQ] at h<;>subst h<;>refine⟨_, ?_,.v _⟩<;>simp[binOp,he]
 ·cases h
theorem aJp (d T e:Nat) (p:Addr) (h:P.underlying T=some (.pointer e)):(Op.equalIn (d+1) T (.pointer (some p)) (.pointer none)).run P w=.ok false w:=by
 simp[Op.equalIn,run_underlying h]
theorem O9 {y:AV} (X Y:Operand) (h:jS P op T x y=some z) (hu:cD C x u) (hv:cD C y v) :
 ∃r,(do eqGuard op T X Y u v;binOp op T u v:Sem Value).run P w=.ok r w/\cD C z r:=by
 unfold jS at h;split at h
 ·rename_i k a A b
  have D:=iM hu
  have ev:=iM hv
  subst D;subst ev;have J:(eqGuard op T X Y (.int k a) (.int A b)).run P w=.ok () w:=by
   cases op<;>simp[eqGuard]
  rw[iF J];cases op<;>simp only at h<;>split at h<;>(try (cases h;done))<;>simp only[cQ] at h<;>subst h<;>refine⟨_, ?_,.v _⟩ <;>
   (try (rename_i R;first|subst R|(obtain⟨R,hb⟩:=R;subst R)))<;>simp[binOp,Op.intArith,Op.intDiv,Op.intBits,Op.intCmp,Op.shift, *]
 ·rename_i a b;have D:=iM hu
  have ev:=iM hv
  subst D;subst ev;have J:(eqGuard op T X Y (.bool a) (.bool b)).run P w=.ok () w:=by
   cases op<;>simp[eqGuard]
  rw[iF J];split at h
  ·rename_i hT;cases op<;>simp only at h<;>(try (cases h;done))<;>simp only[cQ] at h<;>subst h<;>refine⟨_, ?_,.v _⟩<;>simp[binOp,run_equal_bool w T a b hT]
  ·cases h
 ·rename_i xs ys;cases op<;>simp only at h<;>(try (cases h;done))<;>cases he:Im P T xs ys with
  | none=>simp[he] at h
  | some b =>
    simp only[he,cR,cQ] at h;subst h;first
     | exact⟨_,Ys (w:=w) .eql (.inl rfl) X Y he hu hv,.v _⟩
     | exact⟨_,Ys (w:=w) .neq (.inr rfl) X Y he hu hv,.v _⟩
 ·rename_i n c cs;have ev:=iM hv
  subst ev;cases hu with
  | sl _ _ b off cap arr T' fr nM hb hle hh h1=>exact Ru X Y h
 ·have ev:=iM hv
  subst ev;cases hu with
  | ptr _ _ _ b hg hb =>
    split at h
    ·rename_i e hT;have he:=fun p=>aJp (P:=P) (w:=w) 9999 T e p hT
     have he:∀p,(Op.equal T (.pointer (some p)) (.pointer none)).run P w=.ok false w:=he
     have J:∀p,(eqGuard op T X Y (.pointer (some p)) (.pointer none)).run P w=.ok () w:=fun p=>by
      cases op<;>simp[eqGuard]
     rw[iF (J _)];cases op<;>simp only at h<;>(try (cases h;done))<;>simp only[cQ] at h<;>subst h<;>refine⟨_, ?_,.v _⟩<;>simp[binOp,he]
    ·cases h
 ·have D:=iM hu
  have ev:=iM hv
  subst D;subst ev;exact Ru X Y h
 ·cases h
theorem aCy {op:UnOp} (h:ca op x=some z) (hu:cD C x u):∃r,(Op.unary op u).run P w=.ok r w/\cD C z r:=by
 unfold ca at h;split at h<;>(try (cases h;done))<;>simp only[cQ] at h<;>subst h<;>(have D:=iM hu;subst D;refine⟨_, ?_,.v _⟩)<;>simp[Op.unary,Op.intArith,Op.intBits]
theorem bJ {t:Nat} (h:P.underlying t=some d):(underlying t).run P w=.ok d w:=by simp[underlying,h]
theorem mD (b off k:Nat):(⟨b,off,none⟩:Addr).add k=⟨b,off+k,none⟩:=by
 grind [Addr.add]
theorem Rv (h:wT x k=some z) (hu:cD C x u):∃b off,u=.pointer (some ⟨b,off,none⟩)/\cD C z (.pointer (some ⟨b,off+k,none⟩)):=by
 cases x<;>simp[wT] at h
 ·rename_i cs o;obtain⟨hk,rfl⟩:=h
  cases hu<;>grind [cD.ip]
 ·subst h;cases hu<;>grind [cD.ptr]
theorem AB {f:Nat} (W:bF P T f=some k) (h:wT x k=some z) (hu:cD C x u) :
 ∃r,(Instr.fieldAt T u f).run P w=.ok r w/\cD C z r:=by
 obtain⟨b,off,rfl,hz⟩:=Rv h hu
 unfold bF at W;split at W
 ·rename_i fs hT;split at W
  ·rename_i fd hfd;split at W
   ·cases W
   ·rename_i mC;simp only[cQ] at W;subst W;have hi:∃i,P.info? fd.type=some i:=by
     cases h:P.info? fd.type<;>grind [Program.cellsOf]
    obtain⟨i,hi⟩:=hi
    simp_all [vR,Instr.fieldAt,Instr.sureAddr,fieldPlace,mD,bJ,run_sizeOf]
  ·cases W
 ·cases W
theorem Rw (h:gW P T=some (n,sz)):∃e i,P.underlying T=some (.array n e)/\P.info? e=some i/\i.size=sz/\sz≠0:=by
 unfold gW at h;split at h
 ·rename_i n' e hT
  split at h
  ·cases h
  ·rename_i mC;simp only[cQ,Prod.mk.injEq] at h;obtain⟨rfl,rfl⟩:=h
   cases hi:P.info? e<;>grind [Program.cellsOf]
 ·cases h
theorem kS {e by_:Nat} (h:dD P T=some (e,sz,by_)):∃i z,P.underlying T=some (.slice e)/\P.info? e=some i/\i.zero=some z/\i.size=sz/\z.cells.size=sz/\i.bytes=by_/\0<sz:=by
 grind [dD]
theorem Rx (S:kI F h0 w0 nt ρ st a w) (h:rM st x=some cs) (hu:cD (ctx h0 w0 ρ st w) x u) :
 ∃b off arr T fr,u=.pointer (some ⟨b,off,none⟩)/\w.heap[b]? = some (.cells arr T fr)/\dN (ctx h0 w0 ρ st w) cs ((arr.toList.drop off).take cs.length):=by
 cases x<;>simp[rM] at h
 ·subst h;cases hu with
  | ip Gw o' b off arr T fr hb hle hr J =>
    refine⟨b,_,arr,T,fr,rfl,hb.1,⟨qs,fun i x y hx Y=>?_,fun i y Y=>?_⟩⟩
    ·grind
    ·rw[getElem?_take] at Y;split at Y
     ·rename_i hi;rw[getElem?_drop] at Y;simp only[length_drop] at hi;have C:=Y
      simp only[Array.getElem?_toList,Nat.add_assoc] at C
      exact J _ y WF C
     ·cases Y
 ·rename_i s g o;cases hu with
  | ptr s g off b hg hb =>
    cases he:st.heap s g with
    | none=>simp[he] at h
    | some e =>
      obtain⟨_,_,A⟩:=S.tG s g e he
      cases e with
      | cells es =>
        simp[he] at h;subst h;obtain⟨X,arr,T,m,_,hh,G⟩:=A
        have l:X=b:=by
         have h2:cW (ρ s g)=some b:=hb
         grind [cW]
        grind [dN.drop,take_of_length_le,dN.len]
      | row e sz n es =>
        simp[he] at h;subst h;obtain⟨xs,ho,G⟩:=A
        rcases ho.2 with ⟨p,m,_⟩|⟨X,cap,cur,m,_,hh,_,_,_,ht,yX⟩
        ·have h2:cW (ρ s g)=some b:=hb
         grind [pH]
        ·have l:X=b:=by
          have h2:cW (ρ s g)=some b:=hb
          grind [gK]
         subst l;refine⟨X,o,cur,e,(0,0),rfl,hh, ?_⟩
         have:=G.drop o
         grind [dN.len,drop_take,length_drop]
      | map es=>simp[he] at h
theorem Yt (w:World) {b off:Nat} {arr:Array Value} {B:Nat} {fr:Nat × Nat} {i:TypeInfo} (hb:w.heap[b]? = some (.cells arr B fr)) (hi:P.info? T=some i) (hu:P.underlying T=some d)
 (W:off+(if dV P T=true then i.size else 1)<=arr.size) :
 (loadVar T ⟨b,off,none⟩).run P w=.ok (if dV P T=true then .agg ((arr.toList.drop off).take i.size).toArray else arr.toList.getD off undef) w:=by
 unfold loadVar;rw[iF (Mg w hu)];have D:∀j,w.cell? ((⟨b,off,none⟩:Addr).add j)=arr[off+j]?:=fun j=>by grind [mD,cell_of_row]
 cases N:dV P T with
 | true =>
   simp only[N,if_true] at W;simp only[if_true];rw[iF (run_sizeOf w hi)];have:=run_loadCells_list (P:=P) w ⟨b,off,none⟩ ((arr.toList.drop off).take i.size) (fun j v hv=>by
    grind)
   have hlen:((arr.toList.drop off).take i.size).length=i.size:=qs
   simp_all
 | false =>
   simp only[N,Bool.false_eq_true,if_false] at W ⊢;have h0:=D 0
   simp only[Addr.add,if_true,Nat.add_zero] at h0;have A:off<arr.size:=WF
   simp[h0,A]
theorem Dd {A:Bool} (h:lJ P T=some (A,k)):∃i d,P.info? T=some i/\P.underlying T=some d/\dV P T=A/\i.size=k:=by
 grind [lJ,dV]
theorem DE (S:kI F h0 w0 nt ρ st a w) (X:rM st x=some cs) (h:zX P T cs=some z) (hu:cD (ctx h0 w0 ρ st w) x u) :
 ∃r,(Instr.loadAt T u).run P w=.ok r w/\cD (ctx h0 w0 ρ st w) z r:=by
 obtain⟨b,off,arr,B,fr,rfl,hb,G⟩:=Rx S X hu
 unfold zX at h;have hlen:=G.len
 simp only[length_take,length_drop,Array.length_toList] at hlen;split at h
 ·rename_i k R;obtain⟨i,d,hi,l,N,rfl⟩:=Dd R
  split at h
  ·rename_i hle;obtain⟨pX,hle⟩:=hle
   simp only[cQ] at h;subst h;refine⟨_,by
    simp only[Instr.loadAt,Instr.sureAddr];rw[iF (Sem.run_pure P w _)];exact Yt w hb hi l qg, ?_⟩
   grind [cD.agg,dN.rel,dN.one]
  ·cases h
 ·rename_i k R;obtain⟨i,d,hi,l,N,rfl⟩:=Dd R
  cases cs with
  | nil=>simp at h
  | cons c cs =>
    simp at h
    subst h;have A:off<arr.size:=by simp at hlen;omega
    refine⟨_,by
     simp only[Instr.loadAt,Instr.sureAddr];rw[iF (Sem.run_pure P w _)];exact Yt w hb hi l qg, ?_⟩
    rw[N];simp only[Bool.false_eq_true,if_false];refine G.rel 0 c _ rfl ?_
    simp[A]
 ·cases h
theorem tY (S:kI F h0 w0 nt ρ st a w) (h:bA st x=some (n,cs)) (hu:cD (ctx h0 w0 ρ st w) x u) :
 ∃p cap,u=.slice p n cap/\(cs≠[]->∃b off arr T fr,p=some ⟨b,off,none⟩/\w.heap[b]? = some (.cells arr T fr)/\dN (ctx h0 w0 ρ st w) cs ((arr.toList.drop off).take cs.length)):=by
 unfold bA at h;split at h
 ·rename_i n' Gw
  simp only[cQ,Prod.mk.injEq] at h;obtain⟨rfl,rfl⟩:=h
  cases hu with
  | QR n cap p nM=>grind
  | sl n C b off cap arr T fr nM hb hle X J =>
    refine⟨_,cap,rfl,fun _=>⟨b,off,arr,T,fr,rfl,hb.1,⟨qs,fun i x y hx Y=>?_,fun i y Y=>?_⟩⟩⟩
    all_goals grind
 ·rename_i n' Gw
  simp only[cQ,Prod.mk.injEq] at h;obtain⟨rfl,rfl⟩:=h
  cases hu with
  | cc n p=>grind
  | cl n C b off arr T fr hb hle X J =>
    refine⟨_,_,rfl,fun _=>⟨b,off,arr,T,fr,rfl,hb.1,⟨qs,fun i x y hx Y=>?_,fun i y Y=>?_⟩⟩⟩
    all_goals grind
 ·rename_i s g;cases he:st.heap s g with
  | none=>simp[he] at h
  | some e =>
    cases e with
    | row e sz n' es =>
      simp[he] at h
      obtain⟨rfl,rfl⟩:=h
      obtain⟨_,_,xs,ho,G⟩:=S.tG s g _ he
      cases hu with
      | own s g hg J =>
        show ∃p cap,ρ s g=_/\_
        rcases ho.2 with ⟨p,m,M⟩|⟨b',cap,cur,m,_,hh,_,_,_,D,A⟩
        ·refine⟨p,0,by rw[m,M],fun mC=>?_⟩
         have:xs.length=0:=by rw[ho.1,M];simp
         have:=G.len
         grind
        ·refine⟨_,cap,m,fun _=>⟨b',0,cur,e,(0,0),rfl,hh, ?_⟩⟩
         rw[G.len,ho.1,drop_zero,D];exact G
    | _=>simp[he] at h
 ·rename_i s g o n'
  cases he:st.heap s g with
  | none=>simp[he] at h
  | some e =>
    cases e with
    | row e sz N es =>
      simp only[he] at h;split at h
      ·rename_i hle;simp only[cQ,Prod.mk.injEq] at h;obtain⟨rfl,rfl⟩:=h
       obtain⟨_,_,xs,ho,G⟩:=S.tG s g _ he
       cases hu with
       | vw _ _ _ _ b cap hg hb nM r =>
         refine⟨_,cap,rfl,fun mC=>?_⟩
         rcases ho.2 with ⟨p,m,M⟩|⟨b',DF,cur,m,_,hh,_,_,_,D,A⟩
         ·exfalso
          change cW (ρ s g)=some b at hb
          rw[m] at hb;cases p<;>cases hb
         ·change cW (ρ s g)=some b at hb
          rw[m,gK A] at hb;simp only[cQ] at hb;subst hb;refine⟨b',o,cur,e,(0,0),rfl,hh, ?_⟩
          have hxl:xs.length=es.length:=G.len.symm
          have:((cur.toList.drop o).take ((es.drop o).take (n' * sz)).length)=(xs.drop o).take (n' * sz):=by
           have W:((es.drop o).take (n' * sz)).length=n' * sz:=qs
           rw[W,<- D,drop_take,take_take,Nat.min_eq_left (by rw[<- ho.1];omega)]
          grind [dN.take,dN.drop]
      ·cases h
    | cells es =>
      simp only[he] at h;split at h
      ·rename_i hle;simp only[cQ,Prod.mk.injEq] at h;obtain⟨rfl,rfl⟩:=h
       obtain⟨_,_,b',arr,T',m,_,hh,G⟩:=S.tG s g _ he
       cases hu with
       | vw _ _ _ _ b cap hg hb nM r =>
         refine⟨_,cap,rfl,fun mC=>?_⟩
         change cW (ρ s g)=some b at hb
         grind [cW,dN.take,dN.drop]
      ·cases h
    | _=>simp[he] at h
 all_goals grind [iM]
theorem P0 (h:cD C (.sl n cs) u):∃p cap,u=.slice p n cap:=by
 cases h<;>grind
theorem AD (S:kI F h0 w0 nt ρ st a w) {i:AV} (h:bK P st T x i=some z) (hu:cD (ctx h0 w0 ρ st w) x u) (C:cD (ctx h0 w0 ρ st w) i v) :
 ∃r,(Instr.indexAt T u v).run P w=.ok r w/\cD (ctx h0 w0 ρ st w) z r:=by
 unfold bK at h;split at h
 ·rename_i k j;have:=iM C
  subst this;split at h
  ·rename_i n sz ha;obtain⟨e,l,hT,hi,rfl,mC⟩:=Rw ha
   split at h
   ·rename_i hj;obtain⟨b,off,rfl,R⟩:=Rv h hu
    refine⟨_, ?_,R⟩
    simp[Instr.indexAt,asIntOf,bJ hT,Instr.sureAddr,hj,run_sizeOf w hi,mD]
   ·cases h
  ·split at h
   ·rename_i e sz by_ hs;obtain⟨l,ez,hT,hi,Yu,rfl,Rl,rfl,Bg⟩:=kS hs
    split at h
    ·rename_i n cs;split at h
     ·rename_i hj;simp only[cQ] at h;subst h;obtain⟨j1,D,j3⟩:=hj
      cases hu with
      | QR n cap p N=>simp at j3;omega
      | sl n cs b off cap arr T' fr N hb hle hr J =>
        refine⟨_, ?_,.ip ((cs.drop (j.toNat * l.size)).take l.size) 0 b (off+j.toNat * l.size) arr T' fr hb qs (fun i x y hx Y=>?_) (fun i y M Y=>?_)⟩
        ·simp[Instr.indexAt,asIntOf,bJ hT,j1,D,run_sizeOf w hi,mD]
        ·grind
        ·simp only[length_take,length_drop] at M
         exact J (j.toNat * l.size+i) y WF qg
     ·cases h
    ·rename_i s g;cases he:st.heap s g with
     | none=>simp[he] at h
     | some e' =>
       cases e' with
       | row e2 sz2 n es =>
         simp only[he] at h;split at h
         ·rename_i hj;obtain⟨j1,D,rfl,rfl⟩:=hj
          simp only[cQ] at h;subst h;obtain⟨A,_,xs,ho,hc⟩:=S.tG s g _ he
          cases hu with
          | own s g hg J =>
            rcases ho.2 with ⟨p,m,hn⟩|⟨X,cap,cur,m,_,hh,_,_,_,ht,yX⟩
            ·omega
            ·refine⟨.pointer (some ⟨X,j.toNat * l.size,none⟩), ?_,.ptr s g _ X A (by show cW (ρ s g)=_;rw[m,gK yX])⟩
             show (Instr.indexAt T (ρ s g) _).run P w=_
             rw[m];simp[Instr.indexAt,asIntOf,bJ hT,j1,D,run_sizeOf w hi,mD]
         ·cases h
       | _=>simp[he] at h
    ·rename_i s g o n;split at h
     ·rename_i hj;obtain⟨j1,D⟩:=hj
      simp only[cQ] at h;subst h;cases hu with
      | vw _ _ _ _ b cap hg hb N wR =>
        refine⟨.pointer (some ⟨b,o+j.toNat * l.size,none⟩), ?_,.ptr s g _ b hg hb⟩
        simp[Instr.indexAt,asIntOf,bJ hT,j1,D,run_sizeOf w hi,mD]
     ·cases h
    ·cases h
   ·cases h
 ·cases h
end
end Go.Ab
end
section
namespace Go.Ab
open Classical
variable {T:Nat}
def foldl_set (off:Nat):∀(vs:List Value) (k:Nat) (cs:Array Value),off+k+vs.length<=cs.size ->
 ((vs.zipIdx k).foldl (fun cs (x:Value × Nat)=>cs.setIfInBounds (off+x.2) x.1) cs).toList=cs.toList.take (off+k)++vs++cs.toList.drop (off+k+vs.length)
 | [],k,cs,h=>by simp
 | v :: vs,k,cs,h=>by
   simp only[zipIdx_cons,foldl_cons];simp only[length_cons] at h;rw[foldl_set off vs (k+1) (cs.setIfInBounds (off+k) v) qs]
   have A:off+k<cs.size:=WF
   have l:off+k<cs.toList.length:=by simpa using A
   have e1:(cs.setIfInBounds (off+k) v).toList=cs.toList.set (off+k) v:=qe
   rw[e1,show off+(k+1)=off+k+1 from WF]
   have M:cs.toList.set (off+k) v=cs.toList.take (off+k)++v :: cs.toList.drop (off+k+1):=by
    rw[set_eq_take_append_cons_drop,if_pos l]
   have r:(cs.toList.take (off+k)).length=off+k:=qs
   have C:(cs.toList.set (off+k) v).take (off+k+1)=cs.toList.take (off+k)++[v]:=by
    grind
   have G:(cs.toList.set (off+k) v).drop (off+k+1+vs.length)=cs.toList.drop (off+k+(vs.length+1)):=by
    rw[M,drop_append,r,drop_of_length_le (by rw[r];omega),show off+k+1+vs.length-(off+k)=vs.length+1 from WF]
    grind [drop_drop]
   rw[C,G];simp
section
variable {P:Program} {h0:Nat->Obj->Prop} {w0:World} {F:Jb} {nt:Nat} {ρ:Nat->Nat->Value} {st:St} {a:Act} {w:World}
theorem Po {C:Ctx} {place:Nat->Option (Nat × Nat)}:∀(parts:List (Nat × AV)) (pv:List (Nat × Value)) (cells:List AV) (ys:Array Value) (out:List AV),
 parts.map (·.1)=pv.map (·.1)->jD C (parts.map (·.2)) (pv.map (·.2))->(∀p∈parts,p.2.lL=true)->dN C cells ys.toList->mP place cells parts=some out ->
 ∃D,Instr.fill place ys pv=some D/\dN C out D.toList
 | [],pv,cells,ys,out,J,h2,S,X,h5=>by
   cases pv with
   | nil=>simp[mP] at h5;subst h5;exact⟨ys,rfl,X⟩
   | cons p pv=>simp at J
 | (i,x) :: parts,[],cells,ys,out,J,_,_,_,_=>by simp at J
 | (i,x) :: parts,(i',v) :: pv,cells,ys,out,J,h2,S,X,h5=>by
   simp only[map_cons,List.cons.injEq] at J;obtain⟨rfl,J⟩:=J
   simp only[map_cons] at h2;have N:=h2.head
   have G:=N.cells (S (i,x) qe)
   unfold mP at h5;unfold Instr.fill;cases hp:place i with
   | none=>simp[hp] at h5
   | some os =>
     obtain⟨off,size⟩:=os
     simp only[hp] at h5 ⊢;split at h5
     ·rename_i M;obtain⟨c1,c2⟩:=M
      have W:=G.len
      have R:=X.len
      simp only[Array.length_toList] at W R;have mC:¬(v.cells.size≠size\/off+v.cells.size > ys.size):=WF
      have aN9:(decide (v.cells.size≠size) || decide (off+v.cells.size > ys.size))=false:=qs
      rw[if_neg (by simpa using mC)]
      refine Po parts pv _ _ out J h2.tail (fun p A=>S p (by simp[A])) ?_ h5
      have e:=foldl_set off v.cells.toList 0 ys qs
      grind [Array.toList_zipIdx,dN.app,dN.take,dN.drop]
     ·cases h5
theorem Bh {z:List Value} (h:eC P T=some z):∃i Y,P.info? T=some i/\i.zero=some Y/\z=Y.cells.toList/\∀y∈z,y.oneCell'=true:=by
 grind [eC]
theorem XR (S:kI F h0 w0 nt ρ st a w) {parts:Array (Nat × Operand)} {z:AV} (h:wU P st T parts.toList=some z) :
 ∃r,(Instr.build T (parts.map fun (i,x)=>(i,a.eval x))).run P w=.ok r w/\cD (ctx h0 w0 ρ st w) z r:=by
 unfold wU at h;cases R:eC P T with
 | none=>simp[R] at h
 | some zs =>
   cases hp:placeOf P T with
   | none=>simp[R,hp] at h
   | some place =>
     simp only[R,hp] at h;split at h
     ·rename_i oP;simp only[Option.map_eq_some_iff] at h;obtain⟨out,W,rfl⟩:=h
      obtain⟨i,zv,hi,A,rfl,G⟩:=Bh R
      have J:jD (ctx h0 w0 ρ st w) ((parts.toList.map fun p=>(p.1,st.ev p.2)).map (·.2)) ((parts.toList.map fun p=>(p.1,a.eval p.2)).map (·.2)):=by
       grind [jD.map,kI.ev]
      obtain⟨cells,hfill,D⟩:=Po (place:=place) (parts.toList.map fun p=>(p.1,st.ev p.2)) (parts.toList.map fun p=>(p.1,a.eval p.2)) _ zv.cells out qe J
       (fun p hp'=>by
        grind) (dN.vs _ _ G) W
      have C:P.built T (parts.map fun (i,x)=>(i,a.eval x)).toList=some cells:=by
       unfold Program.built;unfold placeOf at hp;split at hp
       ·rename_i M hu;split at hp
        ·rename_i u;simp only[cQ] at hp;simp only[hi,hu,A];have hm:M.toList.mapM (fun f=>(P.info? f.type).map fun i=>(f.offset,i.size))=some (M.toList.map fun f=>(f.offset,P.cellsOf f.type)):=by
          have X:∀f∈M.toList,(P.info? f.type).isSome=true:=fun f W=>Array.all_eq_true_iff_forall_mem.1 u f (Array.mem_toList_iff.1 W)
          generalize M.toList=l at X
          induction l<;>grind [Option.isSome_iff_exists,vR]
         simp_all
        ·cases hp
       ·rename_i n e hu;split at hp
        ·rename_i m;obtain⟨ie,Jc⟩:=Option.isSome_iff_exists.1 m
         simp_all [vR]
        ·cases hp
       ·cases hp
      refine⟨_,run_build w T _ cells C, ?_⟩
      exact .agg _ _ (by simpa using D.len) (fun j x y N Y=>D.rel j x y N xn) (fun j y Y=>D.one j y xn)
     ·cases h
end
end Go.Ab
end
