/-
  Part 10 of the proof: an evaluator of programs, its soundness, and what functions of this program compute.
-/
import Derived.Test.YtmcjkemalibacaaGreatK9
import Derived.Test.YtmcjkemalibacaaGreatK7
set_option linter.all false
set_option maxRecDepth 20000
set_option maxHeartbeats 40000000
namespace Go.Ab.Tryz
open Classical Go.Proofs Go.Ab
theorem aA8:Flat (.agg [.v (.slice none 0 0)]):=.agg _ (by simp;exact .v _)
theorem sL (x m:Int) (hm:0≤m∧m<9223372036854775808):0≤IntKind.i64.wrap ↑(BitVec.ofInt IntKind.i64.bits x &&& BitVec.ofInt IntKind.i64.bits m).toNat∧IntKind.i64.wrap ↑(BitVec.ofInt IntKind.i64.bits x &&& BitVec.ofInt IntKind.i64.bits m).toNat≤m:=by
 have h0:(BitVec.ofInt IntKind.i64.bits x &&& BitVec.ofInt IntKind.i64.bits m).toNat≤(BitVec.ofInt IntKind.i64.bits m).toNat:=by rw[BitVec.toNat_and];exact Nat.and_le_right
 have hb:IntKind.i64.bits=64:=rfl
 have h:(BitVec.ofInt IntKind.i64.bits (m:Int)).toNat=m.toNat:=by
  rw[BitVec.toNat_ofInt,hb];omega
 rw[h] at h0;rw[Dl _ (by omega) (by omega)]
 omega
theorem RO {i n:Int} (h:0≤i) (hn:0<n):0≤i.tdiv n∧i.tdiv n≤i:=by
 rw[Int.tdiv_eq_ediv_of_nonneg h];exact⟨Int.ediv_nonneg h (by omega),Int.ediv_le_self n h⟩
theorem eC {i n:Int} (h:0≤i) (hn:0<n):0≤i.tmod n∧i.tmod n<n:=by
 rw[Int.tmod_eq_emod_of_nonneg h];exact⟨Int.emod_nonneg i (by omega),Int.emod_lt_of_pos i hn⟩
theorem Ac {i:Int} (h:0≤i) (s:Nat):0≤i.fdiv (2 ^ s):=by
 have h2:(0:Int)≤2 ^ s:=Int.pow_nonneg (by decide)
 rw[Int.fdiv_eq_ediv_of_nonneg _ h2];exact Int.ediv_nonneg h h2
theorem aIG (l:List Int) (hl:(l.length:Int)≤9223372036854775807) (i:Int) (i0:0≤i) (i1:i<1000000):∃k:Int,aB Tryz.prog 145 [.sl l.length (aH l),.v (.int .i64 i)]=some (.v (.int .i64 k))∧0≤k∧k≤17777215:=by
 rw[cL Tryz.func145 rfl aIH rfl];by_cases h:(l.length:Int)=0
 ·have hq:((l.length:Int) == 0)=true:=by simp[h]
  simp only[ZZ,seval,hq];obtain⟨b1,b2⟩:=sL i 65535 (by decide)
  exact⟨_,bP rfl (by simp only[EV,seval]<;>rfl) (.v _),b1,by omega⟩
 ·have hq:((l.length:Int) == 0)=false:=by rw[beq_eq_false_iff_ne];exact h
  obtain⟨m1,m2⟩:=eC (n:=(l.length:Int)) i0 (by omega)
  obtain⟨d1,d2⟩:=RO (n:=(l.length:Int)) i0 (by omega)
  simp only[ZZ,seval,hq,h,m1,m2];obtain⟨b1,b2⟩:=sL (it l (i.tmod ↑l.length)) 16777215 (by decide)
  refine⟨_,bP rfl (by simp only[EV,seval]<;>rfl) (.v _), ?_, ?_⟩
  all_goals
   rw[Dl (i.tdiv ↑l.length) (by omega) (by omega),Dl _ (by omega) (by omega)]
   omega
noncomputable def FD (l:List Int) (i:Int):Int:=if h:((l.length:Int)≤9223372036854775807∧0≤i∧i<1000000) then Classical.choose (aIG l h.1 i h.2.1 h.2.2) else 0
theorem Mp (l:List Int) (hl:(l.length:Int)≤9223372036854775807) (i:Int) (i0:0≤i) (i1:i<1000000):aB Tryz.prog 145 [.sl l.length (aH l),.v (.int .i64 i)]=some (.v (.int .i64 (FD l i)))∧0≤FD l i∧FD l i≤17777215:=by
 have h:((l.length:Int)≤9223372036854775807∧0≤i∧i<1000000):=⟨hl,i0,i1⟩
 unfold FD;rw[dif_pos h];exact Classical.choose_spec (aIG l h.1 i h.2.1 h.2.2)
theorem Mq (l:List Int) (hl:(l.length:Int)≤9223372036854775807) (i:Int) (i0:0≤i) (i1:i<1000000) (st:St) (d:Option Nat):aN (aB Tryz.prog) 145 [.sl l.length (aH l),.v (.int .i64 i)] st d=some { dst:=d,val:=.v (.int .i64 (FD l i))}:=bF (bA (Dm l) (.v _)) (Mp l hl i i0 i1).1 (.v _)
def mkRoot (n:Int):bX:=((dT.set 0 (IntKind.u8.wrap n)).set 1 (IntKind.u8.wrap (n.fdiv (2 ^ min 8 IntKind.i64.bits)))).set 31 (IntKind.u8.wrap (IntKind.i64.wrap (n * 7)))
theorem c30 (n:Int):aB Tryz.prog 30 [.v (.int .i64 n)]=some (.agg (aY (mkRoot n))):=by
 rw[cL Tryz.func30 rfl aNA rfl];simp only[ZZ,seval,Vm,Nat.reduceLT];exact fI rfl (by simp only[EV,seval];rfl) (by simp only[ZZ,seval];rfl) (.agg _ (dH _))
theorem Tn (n:Int) (st:St) (d:Option Nat):aN (aB Tryz.prog) 30 [.v (.int .i64 n)] st d=some { dst:=d,val:=.agg (aY (mkRoot n))}:=bF (cK (.v _)) (c30 n) (pY _)
theorem aNB (b:Block) (s:Int):aB Tryz.prog 157 [.agg (aU b),.v (.int .i64 s)]=some (.agg (cD ⟨[⟨b,-1,s⟩]⟩)):=by
 rw[cL Tryz.func157 rfl aII rfl];simp only[ZZ,seval];exact eG rfl (by simp only[EV,seval];rfl) (by simp only[ZZ,seval];rfl) (by simp only[EV,seval,Option.map_some]<;>rfl)
theorem aNC (b:Block) (s:Int) (st:St) (d:Option Nat):aN (aB Tryz.prog) 157 [.agg (aU b),.v (.int .i64 s)] st d=some { dst:=d,val:=.agg (cD ⟨[⟨b,-1,s⟩]⟩)}:=bF (bA (tV _) (.v _)) (aNB b s) (lN _)
theorem ZK (i:Int) (st:St) (d:Option Nat):aN (aB Tryz.prog) 186 [.v (.int .i64 i)] st d=some { dst:=d,val:=.v (.bool (RP i))}:=bF (cK (.v _)) (aND i) (.v _)
theorem iY (ns:List Node) (r:bX) (hn:(ns.length:Int)<1000000) (st:St) (d:Option Nat):aN (aB Tryz.prog) 46 [.agg (cD ⟨ns⟩),.agg (aY r)] st d=some { dst:=d,val:=.v (.int .i64 (aJ ns r))}:=bF (bA (lN _) (pY _)) (c46 ns r hn) (.v _)
noncomputable def AG (ns:List Node) (b:Block) (s:Int):Int :=
 if RP s=false then 2 else if 0≤aJ ns b.root then 9 else if aJ ns b.parent<0 then 10 else if b.slot≤(nd ns (aJ ns b.parent)).block.slot then 14 else if 4096≤(ns.length:Int) then 11 else 0
noncomputable def Gm (ns:List Node) (b:Block) (s:Int):AV :=
 if AG ns b s=0 then .eE [.agg (cD ⟨ns++[⟨b,aJ ns b.parent,s⟩]⟩),.v (.int .i64 0)] else .eE [.agg [.v (.slice none 0 0)],.v (.int .i64 (AG ns b s))]
theorem dJ (ns:List Node) (r:bX):-1≤aJ ns r∧aJ ns r<ns.length:=by
 unfold aJ;cases h:ns.findIdx? (fun n=>decide (n.block.root=r)) with
 | none=>simp only;omega
 | some k =>
   have:=(List.findIdx?_eq_some_iff_getElem.1 h).1
   simp only;omega
theorem aNE (ns:List Node) (hn:(ns.length:Int)<1000000) (b:Block) (s:Int):aB Tryz.prog 149 [.agg (cD ⟨ns⟩),.agg (aU b),.v (.int .i64 s)]=some (Gm ns b s):=by
 rw[cL Tryz.func149 rfl aIJ rfl];have hu:=dJ ns b.parent
 cases hs:RP s
 ·simp only[ZZ,seval,ZK,hs];rw[show Gm ns b s=.eE [.agg [.v (.slice none 0 0)],.v (.int .i64 2)] from by simp[Gm,AG,hs]]
  exact dC rfl (by simp only[bK,ZZ,seval];rfl) (by simp only[bK,EV,seval]<;>rfl) (by simp only[EV,seval]<;>rfl) (by simp only[EV,seval]<;>rfl)
 by_cases h1:0≤aJ ns b.root
 ·simp only[ZZ,seval,ZK,hs,iY,hn,h1];rw[show Gm ns b s=.eE [.agg [.v (.slice none 0 0)],.v (.int .i64 9)] from by simp[Gm,AG,hs,h1]]
  exact dC rfl (by simp only[bK,ZZ,seval];rfl) (by simp only[bK,EV,seval]<;>rfl) (by simp only[EV,seval]<;>rfl) (by simp only[EV,seval]<;>rfl)
 by_cases h2:aJ ns b.parent<0
 ·simp only[ZZ,seval,ZK,hs,iY,hn,h1,h2];rw[show Gm ns b s=.eE [.agg [.v (.slice none 0 0)],.v (.int .i64 10)] from by simp[Gm,AG,hs,h1,h2]]
  exact dC rfl (by simp only[bK,ZZ,seval];rfl) (by simp only[bK,EV,seval]<;>rfl) (by simp only[EV,seval]<;>rfl) (by simp only[EV,seval]<;>rfl)
 have u0:0≤aJ ns b.parent:=by omega
 have u1:aJ ns b.parent<ns.length:=hu.2
 by_cases h3:b.slot≤(nd ns (aJ ns b.parent)).block.slot
 ·simp only[ZZ,seval,ZK,hs,iY,hn,h1,h2,u0,u1,h3];rw[show Gm ns b s=.eE [.agg [.v (.slice none 0 0)],.v (.int .i64 14)] from by simp[Gm,AG,hs,h1,h2,h3]]
  exact dC rfl (by simp only[bK,ZZ,seval];rfl) (by simp only[bK,EV,seval]<;>rfl) (by simp only[EV,seval]<;>rfl) (by simp only[EV,seval]<;>rfl)
 by_cases h4:4096≤(ns.length:Int)
 ·simp only[ZZ,seval,ZK,hs,iY,hn,h1,h2,u0,u1,h3,h4];rw[show Gm ns b s=.eE [.agg [.v (.slice none 0 0)],.v (.int .i64 11)] from by simp[Gm,AG,hs,h1,h2,h3,h4]]
  exact dC rfl (by simp only[bK,ZZ,seval];rfl) (by simp only[bK,EV,seval]<;>rfl) (by simp only[EV,seval]<;>rfl) (by simp only[EV,seval]<;>rfl)
 ·simp only[ZZ,seval,ZK,hs,iY,hn,h1,h2,u0,u1,h3,h4];rw[show Gm ns b s=.eE [.agg (cD ⟨ns++[⟨b,aJ ns b.parent,s⟩]⟩),.v (.int .i64 0)] from by simp[Gm,AG,hs,h1,h2,h3,h4]]
  exact dC rfl (by simp only[bK,ZZ,seval];rfl) (by simp only[bK,EV,seval]<;>rfl) (by simp only[EV,seval]<;>rfl) (by simp only[EV,seval]<;>rfl)
theorem ZL (ns:List Node) (b:Block) (s:Int):Flat (Gm ns b s):=by
 unfold Gm;split
 ·exact .eE _ (bA (lN _) (.v _))
 ·exact .eE _ (bA aA8 (.v _))
theorem aNF (ns:List Node) (hn:(ns.length:Int)<1000000) (b:Block) (s:Int) (st:St) (d:Option Nat):aN (aB Tryz.prog) 149 [.agg (cD ⟨ns⟩),.agg (aU b),.v (.int .i64 s)] st d=some { dst:=d,val:=Gm ns b s }:=bF (mW (lN _) (tV _) (.v _)) (aNE ns hn b s) (ZL ns b s)
theorem aNG (n:Int):aB Tryz.prog 188 [.v (.int .u64 n)]=some (.v (.bool (decide (1≤n) && decide (n≤64)))):=by
 rw[cL Tryz.func188 rfl aIK rfl];by_cases h:1≤n
 all_goals
  simp only[Z8,seval,h,decide_true,decide_false,Bool.true_and,Bool.false_and];exact bP rfl (by simp only[E8,seval,h,decide_true,decide_false,Bool.true_and,Bool.false_and]<;>rfl) (.v _)
theorem aIL (n:Int) (st:St) (d:Option Nat):aN (aB Tryz.prog) 188 [.v (.int .u64 n)] st d=some { dst:=d,val:=.v (.bool (decide (1≤n) && decide (n≤64)))}:=bF (cK (.v _)) (aNG n) (.v _)
noncomputable def AH (a b:Int):Int × Int:=if b≠0∧IntKind.u64.wrap (Int.tdiv 18446744073709551615 b)<a then (0,4) else (IntKind.u64.wrap (a * b),0)
theorem aNH (a b:Int):aB Tryz.prog 189 [.v (.int .u64 a),.v (.int .u64 b)]=some (.eE [.v (.int .u64 (AH a b).1),.v (.int .i64 (AH a b).2)]):=by
 rw[cL Tryz.func189 rfl aIM rfl];unfold AH;by_cases h:b=0
 ·rw[if_neg (fun k=>k.1 h)]
  have hb:(b != 0)=false:=by simp[h]
  simp only[Z8,seval,hb];exact dC rfl rfl rfl (by simp only[E8,seval]<;>rfl) (by simp only[E8,seval]<;>rfl)
 ·have hb:(b != 0)=true:=by simp[h]
  have WY:(b=0)=False:=eq_false h
  by_cases h2:IntKind.u64.wrap (Int.tdiv 18446744073709551615 b)<a
  ·rw[if_pos ⟨h,h2⟩];simp only[Z8,seval,hb,WY,h2];exact dC rfl rfl rfl (by simp only[E8,seval]<;>rfl) (by simp only[E8,seval]<;>rfl)
  ·rw[if_neg (fun k=>h2 k.2)]
   simp only[Z8,seval,hb,WY,h2];exact dC rfl rfl rfl (by simp only[E8,seval]<;>rfl) (by simp only[E8,seval]<;>rfl)
theorem aNI (a b:Int) (st:St) (d:Option Nat):aN (aB Tryz.prog) 189 [.v (.int .u64 a),.v (.int .u64 b)] st d=some { dst:=d,val:=.eE [.v (.int .u64 (AH a b).1),.v (.int .i64 (AH a b).2)]}:=bF (bA (.v _) (.v _)) (aNH a b) (.eE _ (bA (.v _) (.v _)))
noncomputable def Kp (e p:Int):Int × Int:=if 1≤p∧p≤64 then AH e p else (0,3)
theorem aNJ (e p:Int):aB Tryz.prog 155 [.v (.int .u64 e),.v (.int .u64 p)]=some (.eE [.v (.int .u64 (Kp e p).1),.v (.int .i64 (Kp e p).2)]):=by
 rw[cL Tryz.func155 rfl aIN rfl];unfold Kp;by_cases h:1≤p∧p≤64
 ·have h1:(decide (1≤p) && decide (p≤64))=true:=by simp[h]
  rw[if_pos h];simp only[Z8,seval,aIL,h1,aNI,dM];exact dC rfl rfl rfl (by simp only[E8,seval]<;>rfl) (by simp only[E8,seval]<;>rfl)
 ·have h1:(decide (1≤p) && decide (p≤64))=false:=by
   rw[Bool.eq_false_iff];intro k;simp at k;exact h k
  rw[if_neg h];simp only[Z8,seval,aIL,h1];exact dC rfl rfl rfl (by simp only[E8,seval]<;>rfl) (by simp only[E8,seval]<;>rfl)
theorem aNK (e p:Int) (st:St) (d:Option Nat):aN (aB Tryz.prog) 155 [.v (.int .u64 e),.v (.int .u64 p)] st d=some { dst:=d,val:=.eE [.v (.int .u64 (Kp e p).1),.v (.int .i64 (Kp e p).2)]}:=bF (bA (.v _) (.v _)) (aNJ e p) (.eE _ (bA (.v _) (.v _)))
theorem aNL (n a b:Int):aB Tryz.prog 156 [.v (.int .i64 n),.v (.int .i64 a),.v (.int .i64 b)]=some (.v (.bool (decide (a≤n) && decide (n≤b)))):=by
 rw[cL Tryz.func156 rfl aIO rfl];by_cases h:a≤n
 all_goals
  simp only[Z8,seval,h,decide_true,decide_false,Bool.true_and,Bool.false_and];exact bP rfl (by simp only[E8,seval,h,decide_true,decide_false,Bool.true_and,Bool.false_and]<;>rfl) (.v _)
theorem aNM (n a b:Int) (st:St) (d:Option Nat):aN (aB Tryz.prog) 156 [.v (.int .i64 n),.v (.int .i64 a),.v (.int .i64 b)] st d=some { dst:=d,val:=.v (.bool (decide (a≤n) && decide (n≤b)))}:=bF (mW (.v _) (.v _) (.v _)) (aNL n a b) (.v _)
noncomputable def AI (a b:Int):Int × Int:=if IntKind.u64.wrap (18446744073709551615-b)<a then (0,4) else (IntKind.u64.wrap (a+b),0)
theorem aNN (a b:Int):aB Tryz.prog 196 [.v (.int .u64 a),.v (.int .u64 b)]=some (.eE [.v (.int .u64 (AI a b).1),.v (.int .i64 (AI a b).2)]):=by
 rw[cL Tryz.func196 rfl aIP rfl];unfold AI;by_cases h:IntKind.u64.wrap (18446744073709551615-b)<a
 ·rw[if_pos h];simp only[Z8,seval,h];exact dC rfl rfl rfl (by simp only[E8,seval]<;>rfl) (by simp only[E8,seval]<;>rfl)
 ·rw[if_neg h];simp only[Z8,seval,h];exact dC rfl rfl rfl (by simp only[E8,seval]<;>rfl) (by simp only[E8,seval]<;>rfl)
theorem aE3 (a b:Int) (st:St) (d:Option Nat):aN (aB Tryz.prog) 196 [.v (.int .u64 a),.v (.int .u64 b)] st d=some { dst:=d,val:=.eE [.v (.int .u64 (AI a b).1),.v (.int .i64 (AI a b).2)]}:=bF (bA (.v _) (.v _)) (aNN a b) (.eE _ (bA (.v _) (.v _)))
theorem CT (l:List Int):∀c∈bH l,gE c:=by rw[KG];intro c hc;obtain⟨x,_,rfl⟩:=List.mem_map.1 hc;exact .v _
theorem aNO (ns:List Node) (i:Int):aB Tryz.prog 154 [.agg (cD ⟨ns⟩),.v (.int .i64 i)]=some (.v (.bool (decide (0≤i) && decide (i<ns.length)))):=by
 rw[cL Tryz.func154 rfl aIQ rfl];by_cases h:0≤i
 all_goals
  simp only[ZZ,seval,h,decide_true,decide_false,Bool.false_eq_true,Bool.true_and,Bool.false_and];exact bP rfl (by simp only[EV,seval]) (.v _)
theorem aE4 (ns:List Node) (i:Int) (st:St) (d:Option Nat):aN (aB Tryz.prog) 154 [.agg (cD ⟨ns⟩),.v (.int .i64 i)] st d=some { dst:=d,val:=.v (.bool (decide (0≤i) && decide (i<ns.length)))}:=bF (bA (lN _) (.v _)) (aNO ns i) (.v _)
theorem uH {ns:List Node} (h:fZ ns) {i:Int} (i0:0≤i) (i1:i<ns.length):i∈path ns i:=by
 by_cases hi:i=0
 ·subst hi;rw[lO (by omega)];simp
 ·rw[lP h (by omega) i1];simp
theorem Mr {ns:List Node} (h:fZ ns):∀(k:Nat) (i:Int),i.toNat=k→0≤i→i<ns.length→∀x∈path ns i,0≤x∧x≤i:=by
 intro k;induction k using Nat.strongRecOn with
 | _ k ih =>
   intro i hk i0 i1 x hx;by_cases hi:i=0
   ·subst hi;rw[lO (by omega)] at hx;simp at hx;omega
   ·obtain⟨u0,u1⟩:=h i (by omega) i1
    rw[lP h (by omega) i1] at hx
    rcases List.mem_append.1 hx with hx|hx
    ·have:=ih (nd ns i).up.toNat (by omega) _ rfl u0 (by omega) x hx
     omega
    ·simp at hx;omega
theorem uI {ns:List Node} (h:fZ ns) {i x:Int} (hx:x∈path ns i):0≤x∧x<ns.length:=by
 by_cases hi:0≤i∧i<ns.length
 ·have:=Mr h _ i rfl hi.1 hi.2 x hx;omega
 ·rw[xN hi] at hx;simp at hx
def yE (ns:List Node) (s:Int) (l:List Int):Int:=l.foldl (fun r x=>if (nd ns x).block.slot≤s then x else r) (-1)
def Dh (ns:List Node) (i s:Int):Int:=yE ns s (path ns i)
theorem Dn (ns:List Node) (s:Int) (l:List Int) (x:Int):yE ns s (l++[x])=if (nd ns x).block.slot≤s then x else yE ns s l:=by simp[yE]
theorem Gn {ns:List Node} {i:Int} (s:Int) (h:¬(0≤i∧i<ns.length)):Dh ns i s=-1:=by unfold Dh;rw[xN h];rfl
theorem FE {ns:List Node} (h:fZ ns) {i s:Int} (hi:0≤i∧i<ns.length) (hs:(nd ns i).block.slot≤s):Dh ns i s=i:=by
 unfold Dh;by_cases h0:i=0
 ·subst h0;rw[lO (by omega)];simp[yE,hs]
 ·rw[lP h (by omega) hi.2,Dn,if_pos hs]
theorem RQ {ns:List Node} (h:fZ ns) (hr:(nd ns 0).up=-1) {i s:Int} (hi:0≤i∧i<ns.length) (hs:¬(nd ns i).block.slot≤s):Dh ns i s=Dh ns (nd ns i).up s:=by
 by_cases h0:i=0
 ·subst h0;rw[hr,Gn s (i:=-1) (by omega)];unfold Dh;rw[lO (by omega)];simp[yE,hs]
 ·unfold Dh;rw[lP h (by omega) hi.2,Dn,if_neg hs]
theorem c96 (ns:List Node) (hu:fZ ns) (hr:(nd ns 0).up=-1) (i s:Int):aB Tryz.prog 96 [.agg (cD ⟨ns⟩),.v (.int .i64 i),.v (.int .u64 s)]=some (.v (.int .i64 (Dh ns i s))):=by
 rw[cL Tryz.func96 rfl aNP rfl];simp only[ZZ,seval];refine jP (fun n st=>∃c:Int,st.env 1=.v (.int .i64 c)∧st.env 2=.v (.int .u64 s)∧st.env 3=.ptr 3 0 0∧st.heap 3 0=some (.cells (cD ⟨ns⟩))∧Dh ns i s=Dh ns c s∧n=(c+1).toNat)
  (fun e st=>(e=.ret∧st.env 6=.v (.int .i64 (Dh ns i s)))∨(e=.exit 0∧Dh ns i s=-1)) (i+1).toNat ?step ?start ?rest
 case step =>
  rintro n st ⟨c,h1,h2,h3,CU,hb,Gd⟩
  by_cases hv:0≤c∧c<ns.length
  ·have hd:(decide (0≤c) && decide (c<ns.length))=true:=by simp[hv.1,hv.2]
   obtain⟨i0,aZ⟩:=hv
   by_cases hs:(nd ns c).block.slot≤s
   ·have hm:Dh ns c s=c:=FE hu ⟨i0,aZ⟩ hs
    apply oT (.ret)
    ·simp only[ZZ,seval,h1,h2,h3,CU,aE4,hd,aZ,i0,hs];rfl
    ·exact .inl ⟨rfl,by simp only[EV,seval,hb,hm]⟩
   ·have hm:Dh ns c s=Dh ns (nd ns c).up s:=RQ hu hr ⟨i0,aZ⟩ hs
    have Uo:(nd ns c).up<c∧-1≤(nd ns c).up:=by
     by_cases h0:c=0
     ·subst h0;rw[hr];omega
     ·have:=hu c (by omega) aZ;omega
    apply oN (((nd ns c).up+1).toNat)
    ·simp only[ZZ,seval,h1,h2,h3,CU,aE4,hd,aZ,i0,hs];rfl
    ·exact⟨(nd ns c).up,(by simp only[EV,seval]),by simp only[EV,seval,h2],by simp only[EV,seval,h3],by simp only[EV,seval,CU],hb.trans hm,rfl⟩
  ·have hd:(decide (0≤c) && decide (c<ns.length))=false:=by rw[← Bool.not_eq_true];simpa using hv
   apply oT (.exit 0)
   ·simp only[ZZ,seval,h1,h2,h3,CU,aE4,hd];rfl
   ·exact .inr ⟨rfl,hb.trans (Gn s hv)⟩
 case start=>exact⟨i,(by simp only[EV,seval]),(by simp only[EV,seval]),(by simp only[EV,seval]),(by simp only[EV,seval]),rfl,rfl⟩
 case rest =>
  rintro e st (⟨rfl,h⟩|⟨rfl,h⟩)
  ·simp only[ZZ,seval];exact bP rfl h (.v _)
  ·simp only[ZZ,seval];exact bP rfl (by simp only[EV,seval,h]) (.v _)
theorem k96 (ns:List Node) (hu:fZ ns) (hr:(nd ns 0).up=-1) (i s:Int) (st:St) (d:Option Nat):aN (aB Tryz.prog) 96 [.agg (cD ⟨ns⟩),.v (.int .i64 i),.v (.int .u64 s)] st d=some { dst:=d,val:=.v (.int .i64 (Dh ns i s))}:=bF (mW (lN _) (.v _) (.v _)) (c96 ns hu hr i s) (.v _)
theorem aA9 {l:List Int} {j:Int} (j0:0≤j) (j1:j<l.length):l.take (j+1).toNat=l.take j.toNat++[it l j]:=by
 obtain⟨h,e⟩:=wK j0 j1
 rw[e,show (j+1).toNat=j.toNat+1 by omega,List.take_succ_eq_append_getElem h]
theorem yF {l:List Int} {j:Int} (j0:0≤j) (j1:j<l.length):it l j∈l:=by
 obtain⟨h,e⟩:=wK j0 j1
 rw[e];exact List.getElem_mem h
theorem aNQ (ns:List Node) (hu:fZ ns) (hn:(ns.length:Int)<1000000) (i s:Int):aB Tryz.prog 100 [.agg (cD ⟨ns⟩),.v (.int .i64 i),.v (.int .u64 s)]=some (.v (.int .i64 (Dh ns i s))):=by
 rw[cL Tryz.func100 rfl aIR rfl];by_cases hv:0≤i∧i<ns.length
 ·have hl:((path ns i).length:Int)<1000000:=by have:=xD hu i;omega
  have hp:=k76 ns hu hn i hv.1 hv.2
  have hrg:∀x∈path ns i,0≤x∧x<ns.length:=fun x=>uI hu
  unfold Dh;generalize path ns i=p at hl hp hrg
  simp only[ZZ,seval,hp];refine jP (fun n st=>∃j:Int,st.env 2=.v (.int .u64 s)∧st.env 3=.ptr 3 0 0∧st.heap 3 0=some (.cells (cD ⟨ns⟩))∧st.env 8=.own 12 0∧st.heap 12 0=some (.row 3 1 p.length (aH p))∧st.env 9=.v (.int .i64 j)∧st.env 7=.v (.int .i64 (yE ns s (p.take j.toNat)))∧0≤j∧j≤p.length∧n=(p.length-j).toNat)
   (fun e st=>e=.exit 0∧st.env 7=.v (.int .i64 (yE ns s p))) p.length ?step ?start ?rest
  case step =>
   rintro n st ⟨j,h2,h3,CU,h8,hh8,h9,h7,j0,j1,Gd⟩
   by_cases aZ:j<p.length
   ·have hw:IntKind.i64.wrap (j+1)=j+1:=Dl _ (by omega) (by omega)
    obtain⟨x0,x1⟩:=hrg _ (yF j0 aZ)
    have ht:=aA9 j0 aZ
    by_cases hs:(nd ns (it p j)).block.slot≤s
    ·apply oN ((p.length-(j+1)).toNat)
     ·simp only[ZZ,seval,h2,h3,CU,h8,hh8,h9,aZ,j0,hw,x0,x1,hs];rfl
     ·exact⟨j+1,by simp only[EV,seval,h2],by simp only[EV,seval,h3],by simp only[EV,seval,CU],by simp only[EV,seval,h8],by simp only[EV,seval,hh8],(by simp only[EV,seval]),by simp only[EV,seval,ht,Dn,hs],by omega,by omega,rfl⟩
    ·apply oN ((p.length-(j+1)).toNat)
     ·simp only[ZZ,seval,h2,h3,CU,h8,hh8,h9,aZ,j0,hw,x0,x1,hs];rfl
     ·exact⟨j+1,by simp only[EV,seval,h2],by simp only[EV,seval,h3],by simp only[EV,seval,CU],by simp only[EV,seval,h8],by simp only[EV,seval,hh8],(by simp only[EV,seval]),by simp only[EV,seval,ht,Dn,hs,h7],by omega,by omega,rfl⟩
   ·have ht:p.take j.toNat=p:=List.take_of_length_le (by omega)
    apply oT (.exit 0)
    ·simp only[ZZ,seval,h2,h3,CU,h8,hh8,h9,aZ,j0];rfl
    ·exact⟨rfl,by rw[← ht];exact h7⟩
  case start=>exact⟨0,(by simp only[EV,seval]),(by simp only[EV,seval]),(by simp only[EV,seval]),(by simp only[EV,seval]),(by simp only[EV,seval]),(by simp only[EV,seval]),(by simp only[EV,seval];rfl),by omega,by omega,by omega⟩
  case rest =>
   rintro e st ⟨rfl,h⟩
   simp only[ZZ,seval,h];exact bP rfl (by simp only[EV,seval]) (.v _)
 ·rw[Gn s hv];simp only[ZZ,seval,RR ns i hv,Cb,Int.natCast_zero,Int.lt_irrefl,decide_false];exact bP rfl (by simp only[EV,seval]) (.v _)
theorem KH (ns:List Node) (hu:fZ ns) (hn:(ns.length:Int)<1000000) (i s:Int) (st:St) (d:Option Nat):aN (aB Tryz.prog) 100 [.agg (cD ⟨ns⟩),.v (.int .i64 i),.v (.int .u64 s)] st d=some { dst:=d,val:=.v (.int .i64 (Dh ns i s))}:=bF (mW (lN _) (.v _) (.v _)) (aNQ ns hu hn i s) (.v _)
theorem I4 {ns:List Node} (hu:fZ ns) {a c:Int} (h1:c<ns.length) (h:a<c) (a0:0≤a):vE ns a c=vE ns a (nd ns c).up:=by
 unfold vE;rw[decide_eq_decide,lP hu (by omega) h1]
 simp only[List.mem_append,List.mem_singleton];constructor
 ·rintro (hm|rfl)
  ·exact hm
  ·omega
 ·exact .inl
theorem Qa {ns:List Node} (hu:fZ ns) {a c:Int} (h:¬((0≤a∧a<ns.length)∧(0≤c∧c<ns.length))):vE ns a c=false:=by
 unfold vE;rw[decide_eq_false_iff_not];intro hm;by_cases hc:0≤c∧c<ns.length
 ·exact h ⟨uI hu hm,hc⟩
 ·rw[xN hc] at hm;simp at hm
def Ms (ns:List Node) (a:Int):Nat→Int→Int
 | 0,c=>c
 | f+1,c=>if (nd ns c).up=a then c else Ms ns a f (nd ns c).up
def Ad (ns:List Node) (a b:Int):Int:=if a=b∨vE ns a b=false then -1 else Ms ns a b.toNat b
theorem Vn {ns:List Node} (hu:fZ ns) {a c:Int} (h:vE ns a c=true):(0≤a∧a<ns.length)∧(0≤c∧c<ns.length):=by
 by_cases hv:(0≤a∧a<ns.length)∧(0≤c∧c<ns.length)
 ·exact hv
 ·rw[Qa hu hv] at h;cases h
theorem RS {ns:List Node} (hu:fZ ns) {a c:Int} (h:vE ns a c=true):a≤c:=by
 have hr:=(Vn hu h).2
 unfold vE at h;exact (Mr hu _ c rfl hr.1 hr.2 a (of_decide_eq_true h)).2
theorem aNR (a b:List Node) (hn:(a.length:Int)<1000000):aB Tryz.prog 106 [.agg (cD ⟨a⟩),.agg (cD ⟨b⟩)]=some (.v (.bool (decide (a=b)))):=by
 rw[cL Tryz.func106 rfl aIU rfl];by_cases hlen:a.length=b.length
 ·have hq:((a.length:Int) != (b.length:Int))=false:=by simp[hlen]
  simp only[ZZ,seval,hq];refine jP (fun n st=>∃i:Int,st.env 2=.ptr 2 0 0∧st.env 3=.ptr 3 0 0∧st.heap 2 0=some (.cells (cD ⟨a⟩))∧st.heap 3 0=some (.cells (cD ⟨b⟩))∧st.env 5=.v (.int .i64 i)∧0≤i∧i≤a.length∧n=(a.length-i).toNat∧∀j,0≤j→j<i→nd a j=nd b j)
   (fun e st=>(e=.ret∧st.env 4=.v (.bool (decide (a=b))))∨(e=.exit 0∧decide (a=b)=true)) a.length ?step ?start ?rest
  case step =>
   rintro n st ⟨i,h2,h3,tU,CU,h5,i0,i1,Gd,hb⟩
   by_cases aZ:i<a.length
   ·have hw:IntKind.i64.wrap (i+1)=i+1:=Dl _ (by omega) (by omega)
    have KC:i<b.length:=by omega
    by_cases hr:nd a i=nd b i
    ·have I5:decide (nd a i=nd b i)=true:=by simp[hr]
     apply oN ((a.length-(i+1)).toNat)
     ·simp only[ZZ,seval,h2,h3,tU,CU,h5,aZ,KC,i0,I5,hw];rfl
     ·exact⟨i+1,by simp only[EV,seval,h2],by simp only[EV,seval,h3],by simp only[EV,seval,tU],by simp only[EV,seval,CU],(by simp only[EV,seval]),by omega,by omega,rfl,fun j j0 j1=>by
      rcases Int.lt_or_eq_of_le (show j≤i by omega) with h|rfl
      ·exact hb j j0 h
      ·exact hr⟩
    ·have I5:decide (nd a i=nd b i)=false:=by simp[hr]
     have hd:decide (a=b)=false:=by rw[decide_eq_false_iff_not];intro h;exact hr (by rw[h])
     apply oT (.ret)
     ·simp only[ZZ,seval,h2,h3,tU,CU,h5,aZ,KC,i0,I5];rfl
     ·exact .inl ⟨rfl,by simp only[EV,seval,hd]⟩
   ·apply oT (.exit 0)
    ·simp only[ZZ,seval,h2,h3,tU,CU,h5,aZ,i0];rfl
    ·exact .inr ⟨rfl,by
     rw[decide_eq_true_eq];apply List.ext_getElem hlen
     intro j h1 h2;have:=hb j (by omega) (by omega)
     simpa [nd,h1,h2] using this⟩
  case start=>exact⟨0,(by simp only[EV,seval]),(by simp only[EV,seval]),(by simp only[EV,seval]),(by simp only[EV,seval]),(by simp only[EV,seval]),by omega,by omega,by omega,fun j _ _=>by omega⟩
  case rest =>
   rintro e st (⟨rfl,h⟩|⟨rfl,h⟩)
   ·simp only[ZZ,seval];exact bP rfl h (.v _)
   ·simp only[ZZ,seval];exact bP rfl (by simp only[EV,seval,h]) (.v _)
 ·have hq:((a.length:Int) != (b.length:Int))=true:=by simp;omega
  have hd:decide (a=b)=false:=by rw[decide_eq_false_iff_not];intro h;exact hlen (by rw[h])
  simp only[ZZ,seval,hq];exact bP rfl (by simp only[EV,seval,hd]) (.v _)
theorem aNS (a b:List Node) (hn:(a.length:Int)<1000000) (st:St) (d:Option Nat):aN (aB Tryz.prog) 106 [.agg (cD ⟨a⟩),.agg (cD ⟨b⟩)] st d=some { dst:=d,val:=.v (.bool (decide (a=b)))}:=bF (bA (lN _) (lN _)) (aNR a b hn) (.v _)
def oE (ns:List Node) (i:Int):Nat→List Node × List Int
 | 0=>([],[])
 | k+1 =>
   let p:=oE ns i k
   if vE ns i k=true then (p.1++[{ nd ns k with up:=if (k:Int)=i then -1 else it p.2 (nd ns k).up }],p.2++[(p.1.length:Int)]) else (p.1,p.2++[-1])
theorem Dp (ns:List Node) (i:Int):∀k,(oE ns i k).2.length=k
 | 0=>rfl
 | k+1=>by
   have:=Dp ns i k
   simp only[oE];split<;>simp[this]
theorem Qb (ns:List Node) (i:Int):∀k,(oE ns i k).1.length≤k
 | 0=>Nat.le_refl _
 | k+1=>by
   have:=Qb ns i k
   simp only[oE];split
   ·simp;exact this
   ·simp;omega
theorem jS {l m:List Int} {j:Int} (h0:0≤j) (h1:j<l.length):it (l++m) j=it l j:=by
 have:j.toNat<l.length:=by omega
 simp[it,List.getElem?_append_left this]
theorem xO {l:List Int} {x:Int} {j:Int} (h:j=l.length):it (l++[x]) j=x:=by
 subst h;simp[it]
theorem Ip {l m:List Node} {j:Int} (h0:0≤j) (h1:j<l.length):nd (l++m) j=nd l j:=by
 have:j.toNat<l.length:=by omega
 simp[nd,List.getElem?_append_left this]
theorem CV {l:List Node} {x:Node} {j:Int} (h:j=l.length):nd (l++[x]) j=x:=by
 subst h;simp[nd]
theorem KI {ns:List Node} (hu:fZ ns) {i:Int} (i0:0≤i) (i1:i<ns.length):vE ns i i=true:=by
 unfold vE;rw[decide_eq_true_eq];by_cases h:i=0
 ·subst h;rw[lO (by omega)];simp
 ·rw[lP hu (by omega) i1];simp
theorem KJ {ns:List Node} {a:Int} (h:0<ns.length):vE ns a 0=decide (a=0):=by
 unfold vE;rw[lO h];simp
theorem aE5 (ns:List Node) (hu:fZ ns) {i:Int} (i0:0≤i) (i1:i<ns.length):(oE ns i ns.length).1≠[]:=by
 have main:∀k:Nat,i<k→k≤ns.length→(oE ns i k).1≠[]:=by
  intro k;induction k with
  | zero=>intro h;omega
  | succ k ih =>
    intro h1 h2;by_cases hk:i<k
    ·have:=ih hk (by omega)
     simp only[oE];split
     ·simp
     ·exact this
    ·have hki:i=k:=by omega
     have:vE ns i k=true:=by rw[← hki];exact KI hu i0 i1
     simp[oE,this]
 exact main ns.length i1 (Nat.le_refl _)
def aIV (st:St) (s1 s2:Nat) (y:AV) (l:List Int):Prop :=
 (y=.v (.slice none 0 0)∧l=[])∨(∃g,y=.own s1 g∧g<st.aQ s1∧st.heap s1 g=some (.row 3 1 l.length (aH l)))∨(∃g,y=.own s2 g∧g<st.aQ s2∧st.heap s2 g=some (.row 3 1 l.length (aH l)))
def aIW (st:St) (s1:Nat) (x:AV) (l:List Node):Prop :=
 (x=.v (.slice none 0 0)∧l=[])∨(∃g,x=.own s1 g∧g<st.aQ s1∧st.heap s1 g=some (.row 76 240 l.length (cF l)))
theorem c34 (ns:List Node) (hu:fZ ns) (hn:(ns.length:Int)<1000000) (i:Int) (i0:0≤i) (i1:i<ns.length):aB Tryz.prog 34 [.agg (cD ⟨ns⟩),.v (.int .i64 i)] =
 some (.eE [.agg (cD ⟨(oE ns i ns.length).1⟩),.sl (oE ns i ns.length).2.length (aH (oE ns i ns.length).2),.v (.int .i64 0)]):=by
 have hd:(decide (0≤i) && decide (i<ns.length))=true:=by simp[i0,i1]
 rw[cL Tryz.func34 rfl aNT rfl];simp only[ZZ,seval,RA,hd];refine jP (fun n st=>∃(k:Nat) (x y:AV),st.env 2=.ptr 2 0 0∧st.heap 2 0=some (.cells (cD ⟨ns⟩))∧st.env 4=.ptr 4 0 0∧st.heap 4 0=some (.cells [.v (.slice none 0 0)])∧st.env 7=.ptr 7 0 0∧st.heap 7 0=some (.cells [x]) ∧
  st.env 1=.v (.int .i64 i)∧st.env 9=.v (.int .i64 k)∧k≤ns.length∧n=ns.length-k∧st.env 8=y∧aIV st 30 51 y (oE ns i k).2∧aIW st 56 x (oE ns i k).1)
  (fun e st=>e=.exit 0∧∃(x y:AV),st.env 4=.ptr 4 0 0∧st.heap 4 0=some (.cells [.v (.slice none 0 0)])∧st.env 7=.ptr 7 0 0∧st.heap 7 0=some (.cells [x])∧st.env 8=y∧aIV st 30 51 y (oE ns i ns.length).2∧aIW st 56 x (oE ns i ns.length).1) ns.length ?step ?start ?rest
 case step =>
  rintro n st ⟨k,x,y,h2,tU,h4,Dq,h7,Fq,h1,h9,hk,Gd,h8,hy,hx⟩
  have hlen:=Dp ns i k
  have KK:=Qb ns i k
  have Py:((oE ns i k).2.length:Int)<1000000:=by omega
  have RT:((oE ns i k).1.length:Int)<1000000:=by omega
  by_cases aZ:(k:Int)<ns.length
  ·have hw:IntKind.i64.wrap ((k:Int)+1)=((k+1:Nat):Int):=by rw[Dl _ (by omega) (by omega)];simp
   have k0:(0:Int)≤k:=by omega
   by_cases Mt:vE ns i k=true
   ·have hs:oE ns i (k+1)=((oE ns i k).1++[{ nd ns k with up:=if (k:Int)=i then -1 else it (oE ns i k).2 (nd ns k).up }],(oE ns i k).2++[((oE ns i k).1.length:Int)]):=by simp only[oE,Mt,if_true]
    have upb:(k:Int)≠i→0≤(nd ns k).up∧(nd ns k).up<(oE ns i k).2.length:=fun gR=>by
     rcases Nat.eq_zero_or_pos k with h0|h0
     ·subst h0;rw[show ((0:Nat):Int)=0 from rfl,KJ (by omega)] at Mt
      simp at Mt
      omega
     ·have:=hu k (by omega) aZ
      rw[hlen];omega
    by_cases hki:(k:Int)=i
    ·have hq:((k:Int) == i)=true:=by simp[hki]
     rw[if_pos hki] at hs;rcases hy with ⟨rfl,hy⟩|⟨g,rfl,hg,hy⟩|⟨g,rfl,hg,hy⟩<;>rcases hx with ⟨rfl,hx⟩|⟨g',rfl,ZM,hx⟩
     ·rw[hy,hx] at hs;apply oN ((ns.length-(k+1)))
      ·simp only[ZZ,seval,h2,tU,h4,Dq,h7,Fq,h1,h9,h8,aZ,k0,rV ns hu hn,Mt,hw,hq];rfl
      ·exact⟨k+1,_,_,(by simp only[EV,seval,h2]),(by simp only[EV,seval,tU]),(by simp only[EV,seval,h4]),(by simp only[EV,seval,Dq]),(by simp only[EV,seval,h7]),(by simp only[EV,seval];rfl),(by simp only[EV,seval,h1]),(by simp only[EV,seval]),by omega,by omega,(by simp only[EV,seval];rfl),(by rw[hs];(try simp only[List.nil_append]);exact .inr (.inr ⟨_,rfl,(by simp only[EV,seval]<;>omega),(by simp only[EV,seval]<;>rfl)⟩)),(by rw[hs];(try simp only[List.nil_append]);exact .inr ⟨_,rfl,(by simp only[EV,seval]<;>omega),(by simp only[EV,seval]<;>rfl)⟩)⟩
     ·rw[hy] at hs;apply oN ((ns.length-(k+1)))
      ·simp only[ZZ,seval,h2,tU,h4,Dq,h7,Fq,h1,h9,h8,aZ,k0,rV ns hu hn,Mt,hw,hq,hx,RT];rfl
      ·exact⟨k+1,_,_,(by simp only[EV,seval,h2]),(by simp only[EV,seval,tU]),(by simp only[EV,seval,h4]),(by simp only[EV,seval,Dq]),(by simp only[EV,seval,h7]),(by simp only[EV,seval];rfl),(by simp only[EV,seval,h1]),(by simp only[EV,seval]),by omega,by omega,(by simp only[EV,seval];rfl),(by rw[hs];(try simp only[List.nil_append]);exact .inr (.inr ⟨_,rfl,(by simp only[EV,seval]<;>omega),(by simp only[EV,seval]<;>rfl)⟩)),(by rw[hs];(try simp only[List.nil_append]);exact .inr ⟨_,rfl,(by simp only[EV,seval]<;>omega),(by simp only[EV,seval]<;>rfl)⟩)⟩
     ·rw[hx] at hs;apply oN ((ns.length-(k+1)))
      ·simp only[ZZ,seval,h2,tU,h4,Dq,h7,Fq,h1,h9,h8,aZ,k0,rV ns hu hn,Mt,hw,hq,hy,Py];rfl
      ·exact⟨k+1,_,_,(by simp only[EV,seval,h2]),(by simp only[EV,seval,tU]),(by simp only[EV,seval,h4]),(by simp only[EV,seval,Dq]),(by simp only[EV,seval,h7]),(by simp only[EV,seval];rfl),(by simp only[EV,seval,h1]),(by simp only[EV,seval]),by omega,by omega,(by simp only[EV,seval];rfl),(by rw[hs];(try simp only[List.nil_append]);exact .inr (.inr ⟨_,rfl,(by simp only[EV,seval]<;>omega),(by simp only[EV,seval]<;>rfl)⟩)),(by rw[hs];(try simp only[List.nil_append]);exact .inr ⟨_,rfl,(by simp only[EV,seval]<;>omega),(by simp only[EV,seval]<;>rfl)⟩)⟩
     ·apply oN ((ns.length-(k+1)))
      ·simp only[ZZ,seval,h2,tU,h4,Dq,h7,Fq,h1,h9,h8,aZ,k0,rV ns hu hn,Mt,hw,hq,hy,Py,hx,RT];rfl
      ·exact⟨k+1,_,_,(by simp only[EV,seval,h2]),(by simp only[EV,seval,tU]),(by simp only[EV,seval,h4]),(by simp only[EV,seval,Dq]),(by simp only[EV,seval,h7]),(by simp only[EV,seval];rfl),(by simp only[EV,seval,h1]),(by simp only[EV,seval]),by omega,by omega,(by simp only[EV,seval];rfl),(by rw[hs];(try simp only[List.nil_append]);exact .inr (.inr ⟨_,rfl,(by simp only[EV,seval]<;>omega),(by simp only[EV,seval]<;>rfl)⟩)),(by rw[hs];(try simp only[List.nil_append]);exact .inr ⟨_,rfl,(by simp only[EV,seval]<;>omega),(by simp only[EV,seval]<;>rfl)⟩)⟩
     ·rw[hx] at hs;apply oN ((ns.length-(k+1)))
      ·simp only[ZZ,seval,h2,tU,h4,Dq,h7,Fq,h1,h9,h8,aZ,k0,rV ns hu hn,Mt,hw,hq,hy,Py];rfl
      ·exact⟨k+1,_,_,(by simp only[EV,seval,h2]),(by simp only[EV,seval,tU]),(by simp only[EV,seval,h4]),(by simp only[EV,seval,Dq]),(by simp only[EV,seval,h7]),(by simp only[EV,seval];rfl),(by simp only[EV,seval,h1]),(by simp only[EV,seval]),by omega,by omega,(by simp only[EV,seval];rfl),(by rw[hs];(try simp only[List.nil_append]);exact .inr (.inr ⟨_,rfl,(by simp only[EV,seval]<;>omega),(by simp only[EV,seval]<;>rfl)⟩)),(by rw[hs];(try simp only[List.nil_append]);exact .inr ⟨_,rfl,(by simp only[EV,seval]<;>omega),(by simp only[EV,seval]<;>rfl)⟩)⟩
     ·apply oN ((ns.length-(k+1)))
      ·simp only[ZZ,seval,h2,tU,h4,Dq,h7,Fq,h1,h9,h8,aZ,k0,rV ns hu hn,Mt,hw,hq,hy,Py,hx,RT];rfl
      ·exact⟨k+1,_,_,(by simp only[EV,seval,h2]),(by simp only[EV,seval,tU]),(by simp only[EV,seval,h4]),(by simp only[EV,seval,Dq]),(by simp only[EV,seval,h7]),(by simp only[EV,seval];rfl),(by simp only[EV,seval,h1]),(by simp only[EV,seval]),by omega,by omega,(by simp only[EV,seval];rfl),(by rw[hs];(try simp only[List.nil_append]);exact .inr (.inr ⟨_,rfl,(by simp only[EV,seval]<;>omega),(by simp only[EV,seval]<;>rfl)⟩)),(by rw[hs];(try simp only[List.nil_append]);exact .inr ⟨_,rfl,(by simp only[EV,seval]<;>omega),(by simp only[EV,seval]<;>rfl)⟩)⟩
    ·have hq:((k:Int) == i)=false:=by simp[hki]
     obtain⟨u0,u1⟩:=upb hki
     rw[if_neg hki] at hs;rcases hy with ⟨rfl,hy⟩|⟨g,rfl,hg,hy⟩|⟨g,rfl,hg,hy⟩<;>rcases hx with ⟨rfl,hx⟩|⟨g',rfl,ZM,hx⟩
     ·exfalso;rw[hy] at u1;simp at u1;omega
     ·exfalso;rw[hy] at u1;simp at u1;omega
     ·rw[hx] at hs;apply oN ((ns.length-(k+1)))
      ·simp only[ZZ,seval,h2,tU,h4,Dq,h7,Fq,h1,h9,h8,aZ,k0,rV ns hu hn,Mt,hw,hq,u0,u1,hy,Py];rfl
      ·exact⟨k+1,_,_,(by simp only[EV,seval,h2]),(by simp only[EV,seval,tU]),(by simp only[EV,seval,h4]),(by simp only[EV,seval,Dq]),(by simp only[EV,seval,h7]),(by simp only[EV,seval];rfl),(by simp only[EV,seval,h1]),(by simp only[EV,seval]),by omega,by omega,(by simp only[EV,seval];rfl),(by rw[hs];(try simp only[List.nil_append]);exact .inr (.inr ⟨_,rfl,(by simp only[EV,seval]<;>omega),(by simp only[EV,seval]<;>rfl)⟩)),(by rw[hs];(try simp only[List.nil_append]);exact .inr ⟨_,rfl,(by simp only[EV,seval]<;>omega),(by simp only[EV,seval]<;>rfl)⟩)⟩
     ·apply oN ((ns.length-(k+1)))
      ·simp only[ZZ,seval,h2,tU,h4,Dq,h7,Fq,h1,h9,h8,aZ,k0,rV ns hu hn,Mt,hw,hq,u0,u1,hy,Py,hx,RT];rfl
      ·exact⟨k+1,_,_,(by simp only[EV,seval,h2]),(by simp only[EV,seval,tU]),(by simp only[EV,seval,h4]),(by simp only[EV,seval,Dq]),(by simp only[EV,seval,h7]),(by simp only[EV,seval];rfl),(by simp only[EV,seval,h1]),(by simp only[EV,seval]),by omega,by omega,(by simp only[EV,seval];rfl),(by rw[hs];(try simp only[List.nil_append]);exact .inr (.inr ⟨_,rfl,(by simp only[EV,seval]<;>omega),(by simp only[EV,seval]<;>rfl)⟩)),(by rw[hs];(try simp only[List.nil_append]);exact .inr ⟨_,rfl,(by simp only[EV,seval]<;>omega),(by simp only[EV,seval]<;>rfl)⟩)⟩
     ·rw[hx] at hs;apply oN ((ns.length-(k+1)))
      ·simp only[ZZ,seval,h2,tU,h4,Dq,h7,Fq,h1,h9,h8,aZ,k0,rV ns hu hn,Mt,hw,hq,u0,u1,hy,Py];rfl
      ·exact⟨k+1,_,_,(by simp only[EV,seval,h2]),(by simp only[EV,seval,tU]),(by simp only[EV,seval,h4]),(by simp only[EV,seval,Dq]),(by simp only[EV,seval,h7]),(by simp only[EV,seval];rfl),(by simp only[EV,seval,h1]),(by simp only[EV,seval]),by omega,by omega,(by simp only[EV,seval];rfl),(by rw[hs];(try simp only[List.nil_append]);exact .inr (.inr ⟨_,rfl,(by simp only[EV,seval]<;>omega),(by simp only[EV,seval]<;>rfl)⟩)),(by rw[hs];(try simp only[List.nil_append]);exact .inr ⟨_,rfl,(by simp only[EV,seval]<;>omega),(by simp only[EV,seval]<;>rfl)⟩)⟩
     ·apply oN ((ns.length-(k+1)))
      ·simp only[ZZ,seval,h2,tU,h4,Dq,h7,Fq,h1,h9,h8,aZ,k0,rV ns hu hn,Mt,hw,hq,u0,u1,hy,Py,hx,RT];rfl
      ·exact⟨k+1,_,_,(by simp only[EV,seval,h2]),(by simp only[EV,seval,tU]),(by simp only[EV,seval,h4]),(by simp only[EV,seval,Dq]),(by simp only[EV,seval,h7]),(by simp only[EV,seval];rfl),(by simp only[EV,seval,h1]),(by simp only[EV,seval]),by omega,by omega,(by simp only[EV,seval];rfl),(by rw[hs];(try simp only[List.nil_append]);exact .inr (.inr ⟨_,rfl,(by simp only[EV,seval]<;>omega),(by simp only[EV,seval]<;>rfl)⟩)),(by rw[hs];(try simp only[List.nil_append]);exact .inr ⟨_,rfl,(by simp only[EV,seval]<;>omega),(by simp only[EV,seval]<;>rfl)⟩)⟩
   ·have Vo:vE ns i k=false:=by simpa using Mt
    have hs:oE ns i (k+1)=((oE ns i k).1,(oE ns i k).2++[-1]):=by simp[oE,Vo]
    rcases hy with ⟨rfl,hy⟩|⟨g,rfl,hg,hy⟩|⟨g,rfl,hg,hy⟩<;>rcases hx with ⟨rfl,hx⟩|⟨g',rfl,ZM,hx⟩
    ·rw[hy,hx] at hs;apply oN ((ns.length-(k+1)))
     ·simp only[ZZ,seval,h2,tU,h4,Dq,h7,Fq,h1,h9,h8,aZ,k0,rV ns hu hn,Vo,hw];rfl
     ·exact⟨k+1,_,_,(by simp only[EV,seval,h2]),(by simp only[EV,seval,tU]),(by simp only[EV,seval,h4]),(by simp only[EV,seval,Dq]),(by simp only[EV,seval,h7]),(by simp only[EV,seval,Fq];rfl),(by simp only[EV,seval,h1]),(by simp only[EV,seval]),by omega,by omega,(by simp only[EV,seval];rfl),(by rw[hs];(try simp only[List.nil_append]);exact .inr (.inl ⟨_,rfl,(by simp only[EV,seval]<;>omega),(by simp only[EV,seval]<;>rfl)⟩)),(by rw[hs];exact .inl ⟨rfl,rfl⟩)⟩
    ·rw[hy] at hs;apply oN ((ns.length-(k+1)))
     ·simp only[ZZ,seval,h2,tU,h4,Dq,h7,Fq,h1,h9,h8,aZ,k0,rV ns hu hn,Vo,hw,hx,RT];rfl
     ·exact⟨k+1,_,_,(by simp only[EV,seval,h2]),(by simp only[EV,seval,tU]),(by simp only[EV,seval,h4]),(by simp only[EV,seval,Dq]),(by simp only[EV,seval,h7]),(by simp only[EV,seval,Fq];rfl),(by simp only[EV,seval,h1]),(by simp only[EV,seval]),by omega,by omega,(by simp only[EV,seval];rfl),(by rw[hs];(try simp only[List.nil_append]);exact .inr (.inl ⟨_,rfl,(by simp only[EV,seval]<;>omega),(by simp only[EV,seval]<;>rfl)⟩)),(by rw[hs];exact .inr ⟨_,rfl,(by simp only[EV,seval]<;>omega),(by simp only[EV,seval,hx])⟩)⟩
    ·rw[hx] at hs;apply oN ((ns.length-(k+1)))
     ·simp only[ZZ,seval,h2,tU,h4,Dq,h7,Fq,h1,h9,h8,aZ,k0,rV ns hu hn,Vo,hw,hy,Py];rfl
     ·exact⟨k+1,_,_,(by simp only[EV,seval,h2]),(by simp only[EV,seval,tU]),(by simp only[EV,seval,h4]),(by simp only[EV,seval,Dq]),(by simp only[EV,seval,h7]),(by simp only[EV,seval,Fq];rfl),(by simp only[EV,seval,h1]),(by simp only[EV,seval]),by omega,by omega,(by simp only[EV,seval];rfl),(by rw[hs];(try simp only[List.nil_append]);exact .inr (.inl ⟨_,rfl,(by simp only[EV,seval]<;>omega),(by simp only[EV,seval]<;>rfl)⟩)),(by rw[hs];exact .inl ⟨rfl,rfl⟩)⟩
    ·apply oN ((ns.length-(k+1)))
     ·simp only[ZZ,seval,h2,tU,h4,Dq,h7,Fq,h1,h9,h8,aZ,k0,rV ns hu hn,Vo,hw,hy,Py,hx,RT];rfl
     ·exact⟨k+1,_,_,(by simp only[EV,seval,h2]),(by simp only[EV,seval,tU]),(by simp only[EV,seval,h4]),(by simp only[EV,seval,Dq]),(by simp only[EV,seval,h7]),(by simp only[EV,seval,Fq];rfl),(by simp only[EV,seval,h1]),(by simp only[EV,seval]),by omega,by omega,(by simp only[EV,seval];rfl),(by rw[hs];(try simp only[List.nil_append]);exact .inr (.inl ⟨_,rfl,(by simp only[EV,seval]<;>omega),(by simp only[EV,seval]<;>rfl)⟩)),(by rw[hs];exact .inr ⟨_,rfl,(by simp only[EV,seval]<;>omega),(by simp only[EV,seval,hx])⟩)⟩
    ·rw[hx] at hs;apply oN ((ns.length-(k+1)))
     ·simp only[ZZ,seval,h2,tU,h4,Dq,h7,Fq,h1,h9,h8,aZ,k0,rV ns hu hn,Vo,hw,hy,Py];rfl
     ·exact⟨k+1,_,_,(by simp only[EV,seval,h2]),(by simp only[EV,seval,tU]),(by simp only[EV,seval,h4]),(by simp only[EV,seval,Dq]),(by simp only[EV,seval,h7]),(by simp only[EV,seval,Fq];rfl),(by simp only[EV,seval,h1]),(by simp only[EV,seval]),by omega,by omega,(by simp only[EV,seval];rfl),(by rw[hs];(try simp only[List.nil_append]);exact .inr (.inl ⟨_,rfl,(by simp only[EV,seval]<;>omega),(by simp only[EV,seval]<;>rfl)⟩)),(by rw[hs];exact .inl ⟨rfl,rfl⟩)⟩
    ·apply oN ((ns.length-(k+1)))
     ·simp only[ZZ,seval,h2,tU,h4,Dq,h7,Fq,h1,h9,h8,aZ,k0,rV ns hu hn,Vo,hw,hy,Py,hx,RT];rfl
     ·exact⟨k+1,_,_,(by simp only[EV,seval,h2]),(by simp only[EV,seval,tU]),(by simp only[EV,seval,h4]),(by simp only[EV,seval,Dq]),(by simp only[EV,seval,h7]),(by simp only[EV,seval,Fq];rfl),(by simp only[EV,seval,h1]),(by simp only[EV,seval]),by omega,by omega,(by simp only[EV,seval];rfl),(by rw[hs];(try simp only[List.nil_append]);exact .inr (.inl ⟨_,rfl,(by simp only[EV,seval]<;>omega),(by simp only[EV,seval]<;>rfl)⟩)),(by rw[hs];exact .inr ⟨_,rfl,(by simp only[EV,seval]<;>omega),(by simp only[EV,seval,hx])⟩)⟩
  ·have Ez:k=ns.length:=by omega
   subst Ez;apply oT (.exit 0)
   ·simp only[ZZ,seval,h2,tU,h4,Dq,h7,Fq,h1,h9,h8,aZ];rfl
   ·exact⟨rfl,x,y,(by simp only[EV,seval,h4]),(by simp only[EV,seval,Dq]),(by simp only[EV,seval,h7]),(by simp only[EV,seval,Fq]),(by simp only[EV,seval,h8]),hy,hx⟩
 case start=>exact⟨0,_,_,(by simp only[EV,seval]),(by simp only[EV,seval]),(by simp only[EV,seval]),(by simp only[EV,seval]),(by simp only[EV,seval]),(by simp only[EV,seval]<;>rfl),(by simp only[EV,seval]),(by simp only[EV,seval]<;>rfl),by omega,by omega,(by simp only[EV,seval]<;>rfl),.inl ⟨rfl,rfl⟩,.inl ⟨rfl,rfl⟩⟩
 case rest =>
  rintro e st ⟨rfl,x,y,h4,Dq,h7,Fq,h8,hy,hx⟩
  have hlen:=Dp ns i ns.length
  have gR:=aE5 ns hu i0 i1
  rcases hy with ⟨rfl,hy⟩|⟨g,rfl,hg,hy⟩|⟨g,rfl,hg,hy⟩<;>rcases hx with ⟨rfl,hx⟩|⟨g',rfl,ZM,hx⟩
  ·exact absurd hx gR
  ·rw[hy] at hlen;simp at hlen;omega
  ·exact absurd hx gR
  ·simp only[ZZ,seval,h4,Dq,h7,Fq,h8];exact cW rfl (by simp only[bK,ZZ,seval,h4,Dq,h7,Fq,h8];rfl) (by simp only[bK,EV,seval]<;>rfl) (by simp only[bK,EV,seval]<;>rfl) (by simp only[EV,seval,hx,Option.map_some]<;>rfl) (by simp only[EV,seval,hy]) (by simp only[EV,seval])
  ·exact absurd hx gR
  ·simp only[ZZ,seval,h4,Dq,h7,Fq,h8];exact cW rfl (by simp only[bK,ZZ,seval,h4,Dq,h7,Fq,h8];rfl) (by simp only[bK,EV,seval]<;>rfl) (by simp only[bK,EV,seval]<;>rfl) (by simp only[EV,seval,hx,Option.map_some]<;>rfl) (by simp only[EV,seval,hy]) (by simp only[EV,seval])
theorem ZN {P:Program} {b:Code} {st:St} {k:Ex × St→Option (Ex × St)} {R:Ex→St→Prop} (Inv:Nat→St→Prop) (Q:Ex→St→Prop) (n:Nat)
 (step:∀n st,Inv n st→∃e st',yG P b st=some (e,st')∧((e=.normal∧∃m,m<n∧Inv m st')∨(e≠.normal∧Q e st')))
 (start:Inv n st) (rest:∀e st',Q e st'→∃e' I6,k (e,st')=some (e',I6)∧R e' I6):∃e' I6,cH (yG P (.loop b) st) k=some (e',I6)∧R e' I6:=by
 obtain⟨e,s1,h1,h2,h3⟩:=Qc Inv Q step n st start
 rw[h1];exact rest e s1 h3
theorem I7 {x:Option (Ex × St)} {st':St} {n:Nat} {Inv:Nat→St→Prop} {Q:Ex→St→Prop} (h:x=some (.normal,st')) (m:Nat) (hm:m<n) (hi:Inv m st') :
 ∃e st',x=some (e,st')∧((e=.normal∧∃m,m<n∧Inv m st')∨(e≠.normal∧Q e st')):=⟨_,_,h,.inl ⟨rfl,m,hm,hi⟩⟩
theorem ZO {call:Nat→List AV→Option AV} {ops:Array Oper} {st:St} {T:Nat} {pos:String} {eU:Array Edge} (d:Nat) (x y:Operand) {a b:Int} (h1:st.ev x=.v (.int .i64 a)) (h2:st.ev y=.v (.int .i64 b)):cC Tryz.prog call ops ⟨some d,.buildSlice 22 2 #[(0,x),(1,y)],T,pos,eU,none⟩ st =
 some ((st.new d (.row 3 1 2 (aH [a,b]))).put (some d) (.own d (st.aQ d))):=by
 rw[kH];simp[Kq,ze3,cH,h1,h2,AV.jI,Value.oneCell',gJ,AV.cells,List.range,List.range.loop,aH,oZ]
theorem Dr {call:Nat→List AV→Option AV} {ops:Array Oper} {st:St} {T:Nat} {pos:String} {eU:Array Edge} (d:Nat) (x y:Operand):cC Tryz.prog call ops ⟨some d,.buildSlice 22 2 #[(0,x),(1,y)],T,pos,eU,none⟩ st =
 Kr (st.ev x) (fun a=>Kr (st.ev y) (fun b=>some ((st.new d (.row 3 1 2 (aH [a,b]))).put (some d) (.own d (st.aQ d)))) (cC Tryz.prog call ops ⟨some d,.buildSlice 22 2 #[(0,x),(1,y)],T,pos,eU,none⟩ st))
  (cC Tryz.prog call ops ⟨some d,.buildSlice 22 2 #[(0,x),(1,y)],T,pos,eU,none⟩ st):=by
 unfold Kr;split
 ·rename_i a h1;try dsimp only
  split
  ·rename_i b h2;exact ZO d x y h1 h2
  ·rfl
 ·rfl
def Fs (ns:List Node) (i:Int):Nat→List Int
 | 0=>[]
 | k+1=>if vE ns i k=true then Fs ns i k++[(k:Int)] else Fs ns i k
theorem Up (ns:List Node) (i:Int):∀k,(Fs ns i k).length≤k
 | 0=>Nat.le_refl _
 | k+1=>by
   have:=Up ns i k
   simp only[Fs];split
   ·simp;omega
   ·omega
theorem RU {ns:List Node} (hu:fZ ns) {i:Int} (i0:0≤i) (i1:i<ns.length):∀k:Nat,i<k→Fs ns i k≠[]
 | 0,h=>by omega
 | k+1,h=>by
   simp only[Fs];by_cases hk:i=k
   ·rw[if_pos (by unfold vE;rw[← hk];exact decide_eq_true (uH hu i0 i1))];simp
   ·have:=RU hu i0 i1 k (by omega)
    split
    ·simp
    ·exact this
theorem XB (ns:List Node) (i x:Int):∀k:Nat,x∈Fs ns i k↔(0≤x∧x<k)∧vE ns i x=true
 | 0=>by simp[Fs];intro h h';omega
 | k+1=>by
   have ih:=XB ns i x k
   simp only[Fs];split
   ·rename_i h;rw[List.mem_append,ih,List.mem_singleton];constructor
    ·rintro (⟨h1,h2⟩|rfl)
     ·exact⟨by omega,h2⟩
     ·exact⟨by omega,h⟩
    ·rintro⟨h1,h2⟩
     by_cases hk:x=k
     ·exact .inr hk
     ·exact .inl ⟨by omega,h2⟩
   ·rename_i h;rw[ih];constructor
    ·rintro⟨h1,h2⟩;exact⟨by omega,h2⟩
    ·rintro⟨h1,h2⟩
     by_cases hk:x=k
     ·subst hk;exact absurd h2 h
     ·exact⟨by omega,h2⟩
def aBb (ns:List Node) (i:Int):AV:=.eE [.agg (cD ⟨(oE ns i ns.length).1⟩),.sl (oE ns i ns.length).2.length (aH (oE ns i ns.length).2),.v (.int .i64 0)]
theorem ZP (ns:List Node) (i:Int):Flat (aBb ns i):=.eE _ (mW (lN _) (Dm _) (.v _))
theorem k34 (ns:List Node) (hu:fZ ns) (hn:(ns.length:Int)<1000000) (i:Int) (h:0≤i∧i<ns.length) (st:St) (d:Option Nat):aN (aB Tryz.prog) 34 [.agg (cD ⟨ns⟩),.v (.int .i64 i)] st d=some { dst:=d,val:=aBb ns i }:=bF (bA (lN _) (.v _)) (c34 ns hu hn i h.1 h.2) (ZP ns i)
theorem RV {ns:List Node} (hu:fZ ns) {i:Int}:∀k:Nat,k≤ns.length→∀a:Int,0≤a→a<k→vE ns i a=true →
 0≤it (oE ns i k).2 a∧it (oE ns i k).2 a<(oE ns i k).1.length∧nd (oE ns i k).1 (it (oE ns i k).2 a)={ nd ns a with up:=if a=i then -1 else it (oE ns i k).2 (nd ns a).up }
 | 0,_,a,a0,a1,_=>by omega
 | k+1,hk,a,a0,a1,ha=>by
   have hl:=Dp ns i k
   have Uo:a≠i→0≤(nd ns a).up∧(nd ns a).up<a:=fun h=>by
    by_cases ha0:a=0
    ·subst ha0;rw[KJ (by omega)] at ha;simp at ha;omega
    ·exact hu a (by omega) (by omega)
   by_cases hak:a<k
   ·obtain⟨h1,h2,h3⟩:=RV hu k (by omega) a a0 hak ha
    simp only[oE];split
    ·simp only
     rw[jS a0 (by omega),Ip h1 h2,h3]
     refine⟨h1,by simp;omega, ?_⟩
     by_cases CW:a=i
     ·rw[if_pos CW,if_pos CW]
     ·obtain⟨u0,u1⟩:=Uo CW
      rw[if_neg CW,if_neg CW,jS u0 (by omega)]
    ·simp only
     rw[jS a0 (by omega),h3]
     refine⟨h1,h2, ?_⟩
     by_cases CW:a=i
     ·rw[if_pos CW,if_pos CW]
     ·obtain⟨u0,u1⟩:=Uo CW
      rw[if_neg CW,if_neg CW,jS u0 (by omega)]
   ·have hak:a=k:=by omega
    subst hak;simp only[oE,ha,if_true];rw[xO (by omega),CV rfl]
    refine⟨by omega,by simp<;>omega, ?_⟩
    by_cases CW:(k:Int)=i
    ·rw[if_pos CW,if_pos CW]
    ·obtain⟨u0,u1⟩:=Uo CW
     rw[if_neg CW,if_neg CW,jS u0 (by omega)]
theorem Ks (ns:List Node) (i:Int):∀(d k:Nat) (a:Int),0≤a→a<k→it (oE ns i (k+d)).2 a=it (oE ns i k).2 a
 | 0,k,a,_,_=>rfl
 | d+1,k,a,a0,a1=>by
   have ih:=Ks ns i d k a a0 a1
   have hl:=Dp ns i (k+d)
   rw[← ih,← Nat.add_assoc];simp only[oE];split
   ·simp only;rw[jS a0 (by omega)]
   ·simp only;rw[jS a0 (by omega)]
theorem aBc {ns:List Node} {i:Int} {n:Nat} {k:Nat} (hk:k<n) (ha:vE ns i k=true):it (oE ns i n).2 k=(oE ns i k).1.length:=by
 obtain⟨d,rfl⟩:∃d,n=k+1+d:=⟨n-(k+1),by omega⟩
 rw[Ks ns i d (k+1) k (by omega) (by omega)]
 have hl:=Dp ns i k
 simp only[oE,ha,if_true];rw[xO (by omega)]
theorem I8 {ns:List Node} (hu:fZ ns) {i:Int} {n:Nat} (hn:n≤ns.length) {a b:Int} (a0:0≤a) (hab:a<b) (hb:b<n) (ha:vE ns i a=true) (nA:vE ns i b=true):it (oE ns i n).2 a<it (oE ns i n).2 b:=by
 obtain⟨k,rfl⟩:∃k:Nat,b=k:=⟨b.toNat,by omega⟩
 rw[aBc (by omega) nA]
 obtain⟨d,rfl⟩:∃d,n=k+d:=⟨n-k,by omega⟩
 rw[Ks ns i d k a a0 hab];exact (RV hu k (by omega) a a0 hab ha).2.1
theorem Mu (ns:List Node) (i:Int):∀(k:Nat) (m:Int),0≤m→m<(oE ns i k).1.length→∃a:Int,0≤a∧a<k∧vE ns i a=true∧it (oE ns i k).2 a=m
 | 0,m,m0,m1=>by simp[oE] at m1;omega
 | k+1,m,m0,m1=>by
   have hl:=Dp ns i k
   simp only[oE] at m1 ⊢;split at m1
   ·rename_i h;rw[if_pos h];simp only at m1 ⊢
    by_cases hm:m<(oE ns i k).1.length
    ·obtain⟨a,a0,a1,ha,he⟩:=Mu ns i k m m0 hm
     exact⟨a,a0,by omega,ha,by rw[jS a0 (by omega)];exact he⟩
    ·simp at m1
     exact⟨k,by omega,by omega,h,by rw[xO (by omega)];omega⟩
   ·rename_i h;rw[if_neg h];simp only at m1 ⊢
    obtain⟨a,a0,a1,ha,he⟩:=Mu ns i k m m0 m1
    exact⟨a,a0,by omega,ha,by rw[jS a0 (by omega)];exact he⟩
end Go.Ab.Tryz
section
namespace Go.Ab.Tryz
open Classical Go.Proofs Go.Ab
variable {ns:List Node} {i:Int}
theorem KL (hu:fZ ns) {a:Int} (ha:vE ns i a=true):0≤it (oE ns i ns.length).2 a∧it (oE ns i ns.length).2 a<(oE ns i ns.length).1.length∧nd (oE ns i ns.length).1 (it (oE ns i ns.length).2 a)={ nd ns a with up:=if a=i then -1 else it (oE ns i ns.length).2 (nd ns a).up }:=by
 have h:=(Vn hu ha).2
 exact RV hu ns.length (Nat.le_refl _) a h.1 h.2 ha
theorem XC (hu:fZ ns) {a b:Int} (hab:a<b) (ha:vE ns i a=true) (hb:vE ns i b=true):it (oE ns i ns.length).2 a<it (oE ns i ns.length).2 b :=
 I8 hu (Nat.le_refl _) (Vn hu ha).2.1 hab (Vn hu hb).2.2 ha hb
theorem XD (hu:fZ ns) (hi:vE ns i i=true):it (oE ns i ns.length).2 i=0:=by
 obtain⟨h1,h2,_⟩:=KL hu hi
 obtain⟨a,a0,a1,ha,he⟩:=Mu ns i ns.length 0 (Int.le_refl 0) (by omega)
 have:=RS hu ha
 by_cases h:i=a
 ·rw[h] at he ⊢;rw[← h] at he ⊢;exact he
 ·have:=XC hu (show i<a by omega) hi ha
  omega
theorem aIX (hu:fZ ns) {a:Int} (ha:vE ns i a=true) (h:a≠i):0<a∧(0≤(nd ns a).up∧(nd ns a).up<a)∧vE ns i (nd ns a).up=true:=by
 obtain⟨⟨i0,_⟩,a0,a1⟩:=Vn hu ha
 have:=RS hu ha
 have hp:0<a:=by omega
 refine⟨hp,hu a hp a1, ?_⟩
 rw[← I4 hu a1 (by omega) i0];exact ha
theorem aBd (hu:fZ ns) (hi:vE ns i i=true):fZ (oE ns i ns.length).1:=by
 intro m m0 m1;obtain⟨a,a0,a1,ha,rfl⟩:=Mu ns i ns.length m (by omega) m1
 have CW:a≠i:=by rintro rfl;rw[XD hu hi] at m0;omega
 obtain⟨_,⟨u0,u1⟩,Uo⟩:=aIX hu ha CW
 rw[(KL hu ha).2.2];simp only[if_neg CW];exact⟨(KL hu Uo).1,XC hu u1 Uo ha⟩
end Go.Ab.Tryz
end
namespace Go.Ab.Tryz
open Classical Go.Proofs Go.Ab
structure Vld (ns:List Node):Prop where
 ZQ:0<ns.length
 aUt:ns.length≤4096
 To:(nd ns 0).up=-1
 up:fZ ns
 par:∀i:Int,0<i→i<ns.length→(nd ns i).block.parent=(nd ns (nd ns i).up).block.root
 slot:∀i:Int,0<i→i<ns.length→(nd ns (nd ns i).up).block.slot<(nd ns i).block.slot
 roots:∀i j:Int,0≤i→i<j→j<ns.length→(nd ns i).block.root≠(nd ns j).block.root
 st:∀i:Int,0≤i→i<ns.length→RP (nd ns i).status=true
end Go.Ab.Tryz
namespace Go.Ab.Tryz
open Classical Go.Proofs Go.Ab
end Go.Ab.Tryz
namespace Go.Ab.Tryz
open Classical Go.Proofs Go.Ab
noncomputable def KM (st:St) (e:Option mV) (o:Nat):Option AV :=
 match e with
 | some (.cells cs)=>(bY (cs.map (wV st))).map fun ds=>.ip ds o
 | _=>none
theorem ZR (st:St) (f s g o:Nat):fV st (.Fp f [.ptr s g o])=(KM st (st.heap s g) o).map fun y=>.Fp f [y]:=by
 have hn:¬Flat (.Fp f [.ptr s g o]):=by intro h;cases h with|Fp _ _ h=>exact Mv s g o (h _ (by simp))
 unfold fV KM;rw[if_neg hn];simp only[List.map_cons,List.map_nil];unfold dA;rw[if_neg (Mv s g o)];simp only
 cases st.heap s g with
 | none=>rfl
 | some e=>cases e with
   | cells cs =>
     simp only
     cases bY (cs.map (wV st))<;>rfl
   | _=>rfl
theorem RW (st:St) {cs:List AV} (h:∀c∈cs,Flat c) (o:Nat):KM st (some (.cells cs)) o=some (.ip cs o):=by
 unfold KM;simp only[Si h,Option.map_some]
theorem RX (st:St) (r:bX) (o:Nat):KM st (some (.cells (aY r))) o=some (.ip (aY r) o):=RW st (dH r) o
theorem aNU (n:Node) (r:bX):aB Tryz.prog 151 [.agg (eX n),.ip (aY r) 0]=some (.v (.bool (decide (n.block.root=r)))):=by
 rw[cL Tryz.func151 rfl aIY rfl];simp only[ZZ,seval];exact bP rfl (by simp only[EV,seval]) (.v _)
theorem aBe (r:bX):Flat (.ip (aY r) 0):=.ip _ _ (dH r)
theorem aIZ (n:Node) (r:bX) (st:St) (d:Option Nat):aN (aB Tryz.prog) 151 ([.agg (eX n)]++[.ip (aY r) 0]) st d=some { dst:=d,val:=.v (.bool (decide (n.block.root=r)))}:=bF (bA (.agg _ (Kt n)) (aBe r)) (aNU n r) (.v _)
theorem aNV (ns:List Node) (hn:(ns.length:Int)<1000000) (r:bX):aB Tryz.prog 150 [.sl ns.length (cF ns),.Fp 151 [.ip (aY r) 0]]=some (.v (.int .i64 (aJ ns r))):=by
 rw[cL Tryz.func150 rfl aI0 rfl];simp only[ZZ,seval];refine jP (fun n st=>∃i:Int,(st.env 0=.sl ns.length (cF ns)∧st.env 1=.Fp 151 [.ip (aY r) 0]∧st.env 7=.v (.int .i64 ns.length)∧st.env 8=.v (.int .i64 i))∧0≤i∧i≤ns.length∧n=(ns.length-i).toNat∧∀j,0≤j→j<i→(nd ns j).block.root≠r)
  (fun e st=>(e=.ret∧st.env 4=.v (.int .i64 (aJ ns r)))∨(e=.exit 0∧aJ ns r=-1)) ns.length ?step ?start ?rest
 case step =>
  rintro n st ⟨i,hI,i0,i1,Gd,hb⟩
  by_cases aZ:i<ns.length
  ·have hw:IntKind.i64.wrap (i+1)=i+1:=Dl _ (by omega) (by omega)
   by_cases hr:(nd ns i).block.root=r
   ·have hd:decide ((nd ns i).block.root=r)=true:=decide_eq_true hr
    apply oT (.ret)
    ·simp only[ZZ,seval,hI,aZ,i0,aIZ,hd];rfl
    ·exact .inl ⟨rfl,by simp only[EV,seval,KN i0 aZ hr hb]⟩
   ·have hd:decide ((nd ns i).block.root=r)=false:=decide_eq_false hr
    apply oN ((ns.length-(i+1)).toNat)
    ·simp only[ZZ,seval,hI,aZ,i0,aIZ,hd,hw];rfl
    ·exact⟨i+1,by simp only[EV,seval,hI],by omega,by omega,rfl,fun j j0 j1=>by
     rcases Int.lt_or_eq_of_le (show j≤i by omega) with h|rfl
     ·exact hb j j0 h
     ·exact hr⟩
  ·apply oT (.exit 0)
   ·simp only[ZZ,seval,hI,aZ,i0];rfl
   ·exact .inr ⟨rfl,Vp fun j j0 j1=>hb j j0 (by omega)⟩
 case start=>exact⟨0,(by simp only[EV,seval]),by omega,by omega,by omega,fun j _ _=>by omega⟩
 case rest =>
  rintro e st (⟨rfl,h⟩|⟨rfl,h⟩)
  ·simp only[ZZ,seval];exact bP rfl h (.v _)
  ·simp only[ZZ,seval];exact bP rfl (by simp only[EV,seval,h]) (.v _)
theorem aNW (args:List AV) (st:St) (d:Option Nat):aN (aB Tryz.prog) 150 args st d=vN (aB Tryz.prog) 150 (bY (args.map (fV st))) (decide (∀x∈args,Flat x)) st d:=nH _ _ _ _ _
theorem aNX (ns:List Node) (hn:(ns.length:Int)<1000000) (r:bX) (fl:Bool) (st:St) (d:Option Nat):vN (aB Tryz.prog) 150 (some [.sl ns.length (cF ns),.Fp 151 [.ip (aY r) 0]]) fl st d=some { dst:=d,val:=.v (.int .i64 (aJ ns r))}:=KO (aNV ns hn r)
theorem I9 (st:St) (n:Nat) (l:List Node):fV st (.sl n (cF l))=some (.sl n (cF l)):=eB (.sl _ _ (kN l))
theorem c89 (ns:List Node) (r:bX) (hn:(ns.length:Int)<1000000):aB Tryz.prog 89 [.agg (cD ⟨ns⟩),.agg (aY r)]=some (.v (.int .i64 (aJ ns r))):=by
 rw[cL Tryz.func89 rfl aNY rfl];simp only[ZZ,seval,aNW,ZR,RX,I9,aNX,hn];exact bP rfl (by simp only[EV,seval]) (.v _)
theorem k89 (ns:List Node) (r:bX) (hn:(ns.length:Int)<1000000) (st:St) (d:Option Nat):aN (aB Tryz.prog) 89 [.agg (cD ⟨ns⟩),.agg (aY r)] st d=some { dst:=d,val:=.v (.int .i64 (aJ ns r))}:=bF (bA (lN _) (pY _)) (c89 ns r hn) (.v _)
end Go.Ab.Tryz
namespace Go.Ab.Tryz
open Classical Go.Proofs Go.Ab
end Go.Ab.Tryz
namespace Go.Ab.Tryz
open Classical Go.Proofs Go.Ab
noncomputable def aE8 (l:List Int):AV:=if l=[] then .v (.slice none 0 0) else .uniq 3 1 l.length (aH l)
theorem Vq:aE8 []=.v (.slice none 0 0):=if_pos rfl
theorem XE {l:List Int} (h:l≠[]):aE8 l=.uniq 3 1 l.length (aH l):=if_neg h
def Sj (ns:List Node) (i:Int):Nat→List Int
 | 0=>[]
 | k+1=>if (nd ns k).up=i then Sj ns i k++[(k:Int)] else Sj ns i k
theorem Uq (ns:List Node) (i:Int):∀k,(Sj ns i k).length≤k
 | 0=>Nat.le_refl _
 | k+1=>by
   have:=Uq ns i k
   simp only[Sj];split
   ·simp;omega
   ·omega
theorem KP {ns:List Node} {i:Int}:∀k:Nat,(∀j:Int,0≤j→j<k→(nd ns j).up≠i)→Sj ns i k=[]
 | 0,_=>rfl
 | k+1,h=>by
   simp only[Sj];rw[if_neg (h k (by omega) (by omega))]
   exact KP k fun j j0 j1=>h j j0 (by omega)
theorem aI2 {ns:List Node} (hu:fZ ns) (hr:(nd ns 0).up=-1) {j:Int} (j0:0≤j) (j1:j<ns.length):(nd ns j).up<ns.length:=by
 by_cases h:j=0
 ·subst h;omega
 ·have:=hu j (by omega) j1;omega
def vO (ns:List Node) (i:Int):List Int:=if i<0 then [] else Sj ns i ns.length
theorem KQ {ns:List Node} (hu:fZ ns) (hr:(nd ns 0).up=-1) {i:Int} (h:¬(0≤i∧i<ns.length)):vO ns i=[]:=by
 unfold vO;split
 ·rfl
 ·exact KP _ fun j j0 j1=>by have:=aI2 hu hr j0 j1;omega
theorem aI3 (ns:List Node) (hu:fZ ns) (hr:(nd ns 0).up=-1) (hn:(ns.length:Int)<1000000) (i:Int):aB Tryz.prog 245 [.agg (cD ⟨ns⟩),.v (.int .i64 i)]=some (aE8 (vO ns i)):=by
 rw[cL Tryz.func245 rfl aI4 rfl];by_cases hm:0≤i∧i<ns.length
 ·have hd:(decide (0≤i) && decide (i<ns.length))=true:=by simp[hm.1,hm.2]
  rw[show vO ns i=Sj ns i ns.length from if_neg (by omega)]
  simp only[ZZ,seval];refine jP (fun n st=>∃k:Nat,(st.env 1=.v (.int .i64 i)∧st.env 2=.ptr 2 0 0∧st.heap 2 0=some (.cells (cD ⟨ns⟩))∧st.env 6=.v (.int .i64 k)) ∧
   ((Sj ns i k=[]∧st.env 5=.v (.slice none 0 0))∨(Sj ns i k≠[]∧∃g,st.env 5=.own 30 g∧g<st.aQ 30∧st.heap 30 g=some (.row 3 1 (Sj ns i k).length (aH (Sj ns i k)))))∧k≤ns.length∧n=ns.length-k)
   (fun e st=>e=.exit 0∧((Sj ns i ns.length=[]∧st.env 5=.v (.slice none 0 0))∨(Sj ns i ns.length≠[]∧∃g,st.env 5=.own 30 g∧g<st.aQ 30∧st.heap 30 g=some (.row 3 1 (Sj ns i ns.length).length (aH (Sj ns i ns.length)))))) ns.length ?step ?start ?rest
  case step =>
   rintro n st ⟨k,hI,h5,hk,Gd⟩
   have hl:=Uq ns i k
   have Fa:((Sj ns i k).length:Int)<1000000:=by omega
   by_cases aZ:(k:Int)<ns.length
   ·have hw:IntKind.i64.wrap ((k:Int)+1)=((k+1:Nat):Int):=by rw[Dl _ (by omega) (by omega)];omega
    have q0:(0:Int)≤k:=by omega
    by_cases hu:(nd ns k).up=i
    ·have hq:((nd ns k).up == i)=true:=by simp[hu]
     have hs:Sj ns i (k+1)=Sj ns i k++[(k:Int)]:=by simp only[Sj,hu,if_true]
     rcases h5 with ⟨hy,h5⟩|⟨hy,g,h5⟩
     ·rw[hy] at hs;apply oN (ns.length-(k+1))
      ·simp only[ZZ,seval,hI,h5,aZ,hw,q0,hq,RA,hd];rfl
      ·exact⟨k+1,by simp only[EV,seval,hI],.inr ⟨by rw[hs];simp,_,by simp only[EV,seval]<;>rfl,(by simp only[EV,seval]<;>omega),(by rw[hs];simp only[EV,seval]<;>rfl)⟩,by omega,rfl⟩
     ·apply oN (ns.length-(k+1))
      ·simp only[ZZ,seval,hI,h5,Fa,aZ,hw,q0,hq,RA,hd];rfl
      ·exact⟨k+1,by simp only[EV,seval,hI],.inr ⟨by rw[hs];simp,_,by simp only[EV,seval]<;>rfl,(by simp only[EV,seval]<;>omega),(by rw[hs];simp only[EV,seval]<;>rfl)⟩,by omega,rfl⟩
    ·have hq:((nd ns k).up == i)=false:=by simp[hu]
     have hs:Sj ns i (k+1)=Sj ns i k:=by simp only[Sj,hu,if_false]
     apply oN (ns.length-(k+1))
     ·simp only[ZZ,seval,hI,aZ,hw,q0,hq,RA,hd];rfl
     ·exact⟨k+1,by simp only[EV,seval,hI],by rw[hs];simpa only[EV,seval] using h5,by omega,rfl⟩
   ·obtain rfl:k=ns.length:=by omega
    apply oT (.exit 0)
    ·simp only[ZZ,seval,hI,aZ];rfl
    ·exact⟨rfl,by simpa only[EV,seval] using h5⟩
  case start=>exact⟨0,(by simp only[EV,seval]),.inl ⟨rfl,(by simp only[EV,seval])⟩,by omega,rfl⟩
  case rest =>
   rintro e st ⟨rfl,⟨hy,h5⟩|⟨hy,g,h5,hg,zN⟩⟩
   ·rw[hy,Vq];simp only[ZZ,seval,h5];exact bP rfl (by simp only[EV,seval]) (.v _)
   ·rw[XE hy];simp only[ZZ,seval,h5,zN];exact sU rfl (by simp only[EV,seval];rfl) (by simp only[EV,seval,zN]) (gB _)
 ·have hd:(decide (0≤i) && decide (i<ns.length))=false:=by
   rw[← Bool.not_eq_true];simpa using hm
  rw[KQ hu hr hm,Vq];by_cases h0:(0:Int)<ns.length
  ·simp only[ZZ,seval,Cb,RA,hd,h0];exact bP rfl (by simp only[EV,seval]) (.v _)
  ·simp only[ZZ,seval,Cb,RA,hd,h0];exact bP rfl (by simp only[EV,seval]) (.v _)
theorem aI5 (ns:List Node) (hu:fZ ns) (hr:(nd ns 0).up=-1) (hn:(ns.length:Int)<1000000) (i:Int) (h:vO ns i≠[]) (st:St) (d:Nat):aN (aB Tryz.prog) 245 [.agg (cD ⟨ns⟩),.v (.int .i64 i)] st (some d)=some { dst:=some d,val:=.own d (st.aQ d),new:=some (d,[.row 3 1 (vO ns i).length (aH (vO ns i))])}:=by
 have hc:=aI3 ns hu hr hn i
 rw[XE h] at hc;exact jA (bA (lN _) (.v _)) hc
theorem aDT (ns:List Node) (hu:fZ ns) (hr:(nd ns 0).up=-1) (hn:(ns.length:Int)<1000000) (i:Int) (h:vO ns i=[]) (st:St) (d:Option Nat):aN (aB Tryz.prog) 245 [.agg (cD ⟨ns⟩),.v (.int .i64 i)] st d=some { dst:=d,val:=.v (.slice none 0 0)}:=by
 have hc:=aI3 ns hu hr hn i
 rw[h,Vq] at hc;exact bF (bA (lN _) (.v _)) hc (.v _)
end Go.Ab.Tryz
namespace Go.Ab.Tryz
open Classical Go.Proofs Go.Ab
end Go.Ab.Tryz
namespace Go.Ab.Tryz
open Classical Go.Proofs Go.Ab
theorem Vr [Ext] {P:Program} {f:Nat} {fn:Func} {st:St} {e:Ex} {r:ResultVar} {x y:AV} (hk:Ext.pW f=true) (he:e=.ret∨e=.normal) (hr:fn.results.toList=[r]) (h1:bK P st r=some x) (hn:(lF x).Nodup) (hy:By st x=some y):zO P f fn (e,st)=some y:=by
 have h:jN P f fn st=some y:=by
  unfold jN;rw[hk,if_pos rfl];unfold Mi;rw[hr];simp only[Ae,h1,cH,if_pos hn,hy]
 rcases he with rfl|rfl<;>exact h
theorem KR [Ext] {P:Program} {f:Nat} {fn:Func} {st:St} {e:Ex} {r1 r2:ResultVar} {x1 x2 y:AV} (hk:Ext.pW f=true) (he:e=.ret∨e=.normal) (hr:fn.results.toList=[r1,r2]) (h1:bK P st r1=some x1) (h2:bK P st r2=some x2)
 (hn:(lF (.eE [x1,x2])).Nodup) (hy:By st (.eE [x1,x2])=some y):zO P f fn (e,st)=some y:=by
 have h:jN P f fn st=some y:=by
  unfold jN;rw[hk,if_pos rfl];unfold Mi;rw[hr];simp only[List.map_cons,List.map_nil,Ae,h1,h2,cH,bY,Option.map_some,if_pos hn,hy]
 rcases he with rfl|rfl<;>exact h
theorem CX {st:St} {s g e sz n:Nat} {cs:List AV} (h:st.heap s g=some (.row e sz n cs)) (hf:∀c∈cs,Flat c):rD st (.agg [.own s g])=some (.agg [.uniq e sz n cs]):=by
 simp only[rD,List.map_cons,List.map_nil,kA,if_neg (mI s g),h,if_pos hf,bY,Option.map_some]
theorem ZS (st:St):rD st (.agg [.v (.slice none 0 0)])=some (.agg [.v (.slice none 0 0)]):=by
 simp only[rD,List.map_cons,List.map_nil,kA,if_pos (Flat.v _),bY,Option.map_some]
theorem XF (st:St) (x:Value):rD st (.v x)=some (.v x):=by simp only[rD,kA,if_pos (Flat.v x)]
theorem CY {st:St} {a b x y:AV} (h1:rD st a=some x) (h2:rD st b=some y):By st (.eE [a,b])=some (.eE [x,y]):=by
 simp only[By,List.map_cons,List.map_nil,h1,h2,bY,Option.map_some]
theorem ZT {st:St} {cs:List AV} {x:AV} (h1:rD st (.agg cs)=some x):By st (.agg cs)=some x:=h1
theorem Jw (e sz n:Nat) (cs:List AV):¬Flat (.uniq e sz n cs):=by intro h;cases h
theorem ZU {e sz n:Nat} {cs:List AV} {st:St} {d:Nat}:iP (.agg [.uniq e sz n cs]) st (some d)=some { dst:=some d,val:=.agg [.own d (st.aQ d)],new:=some (d,[.row e sz n cs])}:=by
 have hn:¬Flat (.agg [.uniq e sz n cs]):=by intro h;cases h with|agg _ h=>exact Jw e sz n cs (h _ (by simp))
 unfold iP;rw[if_neg hn];rfl
theorem ZV {e sz n:Nat} {cs:List AV} {x:Value} {st:St} {d:Nat}:iP (.eE [.agg [.uniq e sz n cs],.v x]) st (some d)=some { dst:=some d,val:=.eE [.agg [.own d (st.aQ d)],.v x],new:=some (d,[.row e sz n cs])}:=by
 have hn:¬Flat (.eE [.agg [.uniq e sz n cs],.v x]):=by
  intro h;cases h with
  | eE _ h =>
    have:=h (.agg [.uniq e sz n cs]) (by simp)
    cases this with
    | agg _ h=>exact Jw e sz n cs (h _ (by simp))
 unfold iP;rw[if_neg hn];rfl
theorem aBf {call:Nat→List AV→Option AV} {g:Nat} {args:List AV} {d e sz n:Nat} {cs:List AV} {st:St} (hf:∀x∈args,Flat x) (h:call g args=some (.agg [.uniq e sz n cs])):aN call g args st (some d)=some { dst:=some d,val:=.agg [.own d (st.aQ d)],new:=some (d,[.row e sz n cs])}:=by
 unfold aN;rw[if_pos hf,h];exact ZU
theorem aI6 {call:Nat→List AV→Option AV} {g:Nat} {xs:List AV} {d e sz n:Nat} {cs:List AV} {x:Value} {fl:Bool} {st:St} (h:call g xs=some (.eE [.agg [.uniq e sz n cs],.v x])) (hm:∀c∈cs,gE c):vN call g (some xs) fl st (some d)=some { dst:=some d,val:=.eE [.agg [.own d (st.aQ d)],.v x],new:=some (d,[.row e sz n cs])}:=by
 have XG:Gh (.eE [.agg [.uniq e sz n cs],.v x]):=by
  intro y hy;rcases List.mem_cons.1 hy with rfl|hy
  ·intro c hc;simp at hc
   subst hc;exact hm
  ·simp at hy
   subst hy;exact .v _
 unfold vN;simp only[cN,h,XG,or_true,if_true];exact ZV
theorem aI7 {call:Nat→List AV→Option AV} {g:Nat} {xs:List AV} {x y:Value} {fl:Bool} {st:St} {d:Option Nat} (h:call g xs=some (.eE [.agg [.v y],.v x])):vN call g (some xs) fl st d=some { dst:=d,val:=.eE [.agg [.v y],.v x]}:=by
 have hf:∀z∈[AV.agg [.v y],.v x],Flat z:=bA (.agg _ (cK (.v _))) (.v _)
 refine ZW h ?_ (.eE _ hf)
 intro z hz;rcases List.mem_cons.1 hz with rfl|hz
 ·intro c hc;simp at hc;subst hc;exact .v _
 ·simp at hz;subst hz;exact .v _
theorem XH {z:Nat} {α:Type} (f:α→List AV) (hf:∀x,(f x).length=z):∀(l:List α) (i o:Nat) (hi:i<l.length),o<z→(l.flatMap f)[i * z+o]? = (f l[i])[o]?
 | [],i,o,hi,_=>by simp at hi
 | a :: l,0,o,_,ho=>by
   simp only[List.flatMap_cons,Nat.zero_mul,Nat.zero_add,List.getElem_cons_zero];rw[List.getElem?_append_left (by rw[hf];exact ho)]
 | a :: l,i+1,o,hi,ho=>by
   have ih:=XH f hf l i o (by simpa using hi) ho
   simp only[List.flatMap_cons,List.getElem_cons_succ];rw[List.getElem?_append_right (by rw[hf,Nat.succ_mul];omega),hf,show (i+1) * z+o-z=i * z+o by rw[Nat.succ_mul];omega]
   exact ih
theorem XI {z:Nat} {α:Type} (f:α→List AV) (hf:∀x,(f x).length=z) (o e:Nat) (xs:List AV) (hoe:o≤e) (he:e≤z):∀(l:List α) (i:Nat) (hi:i<l.length) (y:α),dP (f l[i]) o xs e=f y→dP (l.flatMap f) (i * z+o) xs (i * z+e)=(l.set i y).flatMap f
 | [],i,hi,_,_=>by simp at hi
 | a :: l,0,_,y,h=>by
   simp only[List.flatMap_cons,Nat.zero_mul,Nat.zero_add,List.set_cons_zero,List.getElem_cons_zero] at h ⊢;rw[← h];unfold dP;rw[List.take_append_of_le_length (by rw[hf];omega),List.drop_append_of_le_length (by rw[hf];omega)]
   simp
 | a :: l,i+1,hi,y,h=>by
   have ih:=XI f hf o e xs hoe he l i (by simpa using hi) y (by simpa using h)
   simp only[List.flatMap_cons,List.set_cons_succ];rw[← ih];unfold dP;have h1:(i+1) * z+o=z+(i * z+o):=by rw[Nat.succ_mul];omega
   have h2:(i+1) * z+e=z+(i * z+e):=by rw[Nat.succ_mul];omega
   rw[h1,h2,List.take_append,List.drop_append,List.take_of_length_le (by rw[hf];omega),List.drop_of_length_le (by rw[hf];omega),hf,Nat.add_sub_cancel_left,Nat.add_sub_cancel_left]
   simp
theorem ZX {l:List Bool} {xs:List AV} (h:iI l xs xs):∀c∈xs,gE c:=by
 obtain⟨us,vs,rfl,_,_⟩:=Ca _ _ _ h
 intro c hc;obtain⟨x,_,rfl⟩:=List.mem_map.1 hc
 exact .v _
theorem Vs (l:List Node):∀c∈cF l,gE c:=fun c hc=>by
 obtain⟨n,_,h⟩:=List.mem_flatMap.1 hc
 exact ZX (Vt n n) c h
theorem ZY {l:List Node} {i:Int} (h0:0≤i) (h1:i<l.length) (o:Nat) (ho:o<240):(cF l)[i.toNat * 240+o]? = (eX (nd l i))[o]?:=by
 obtain⟨h,e⟩:=Ku h0 h1
 rw[e];exact XH eX uJ l i.toNat o h ho
theorem j8 {l:List Node} {i:Int} (h0:0≤i) (h1:i<l.length) {o e:Nat} {xs:List AV} (hoe:o≤e) (he:e≤240) {y:Node} (h:dP (eX (nd l i)) o xs e=eX y):dP (cF l) (i.toNat * 240+o) xs (i.toNat * 240+e)=cF (l.set i.toNat y):=by
 obtain⟨hi,e'⟩:=Ku h0 h1
 rw[e'] at h;exact XI eX uJ o e xs hoe he l i.toNat hi y h
def Vu (n:Node) (s:Int):Node:={ n with status:=s }
def setAt (ns:List Node) (i s:Int):List Node:=ns.set i.toNat (Vu (nd ns i) s)
theorem RY {l:List Node} {i s:Int} (h0:0≤i) (h1:i<l.length):dP (cF l) (i.toNat * 240+239) [.v (.int .i64 s)] (i.toNat * 240+240)=cF (setAt l i s) :=
 j8 h0 h1 (by decide) (by decide) (Gp (nd l i) _)
theorem RZ {l:List Node} {i:Int} (h0:0≤i) (h1:i<l.length):(cF l)[i.toNat * 240+239]? = some (.v (.int .i64 (nd l i).status)):=by
 rw[ZY h0 h1 239 (by decide)]
 exact Fb (nd l i)
theorem Cc (ns:List Node) (i s:Int):(setAt ns i s).length=ns.length:=by simp[setAt]
def CZ (to never:Int):List Int→List Node→Option (List Node)
 | [],ns=>some ns
 | i :: l,ns=>if (nd ns i).status=never then none else CZ to never l (setAt ns i to)
theorem FF {to never:Int}:∀(l:List Int) (ns r:List Node),CZ to never l ns=some r→r.length=ns.length
 | [],ns,r,h=>by simp only[CZ,Option.some.injEq] at h;rw[h]
 | i :: l,ns,r,h=>by
   simp only[CZ] at h;split at h
   ·cases h
   ·rw[FF l _ r h,Cc]
theorem SA {l:List Node} (h:0<l.length):cF l≠[]:=by
 intro he;have:=congrArg List.length he
 rw[Kv] at this;simp only[List.length_nil] at this;omega
theorem aN0 (l:List Node) (h0:0<l.length) (hn:(l.length:Int)<1000000):aB Tryz.prog 192 [.sl l.length (cF l)]=some (.uniq 76 240 l.length (cF l)):=by
 rw[cL Tryz.func192 rfl aI8 rfl];have gR:=SA h0
 have ha:=fun s g=>Mw (e:=76) (sz:=240) (by_:=352) (s:=s) (g:=g) (n:=l.length) (cs:=cF l) (by simp) (by omega) (by unfold maxLen;omega)
 simp only[ZZ,seval,gR,ha];exact sU rfl (by simp only[EV,seval];rfl) (by simp only[EV,seval]) (kN _)
theorem aN1 (l:List Node) (h0:0<l.length) (hn:(l.length:Int)<1000000) (st:St) (d:Nat):aN (aB Tryz.prog) 192 [.sl l.length (cF l)] st (some d)=some { dst:=some d,val:=.own d (st.aQ d),new:=some (d,[.row 76 240 l.length (cF l)])}:=jA (cK (.sl _ _ (kN l))) (aN0 l h0 hn)
theorem aN2 (ns:List Node) (h0:0<ns.length) (hn:(ns.length:Int)<1000000):aB Tryz.prog 165 [.agg (cD ⟨ns⟩)]=some (.agg [.uniq 76 240 ns.length (cF ns)]):=by
 rw[cL Tryz.func165 rfl aI9 rfl];have hK:=aN1 ns h0 hn
 simp only[ZZ,seval,hK];refine Vr rfl (.inl rfl) rfl (x:=.agg [.own 5 0]) (by simp only[bK,ZZ,seval]) (by simp[lF,iQ,gK]) (ZT (CX (by simp only[EV,seval]) (kN _)))
theorem aN3 (ns:List Node) (h0:0<ns.length) (hn:(ns.length:Int)<1000000) (st:St) (d:Nat):aN (aB Tryz.prog) 165 [.agg (cD ⟨ns⟩)] st (some d)=some { dst:=some d,val:=.agg [.own d (st.aQ d)],new:=some (d,[.row 76 240 ns.length (cF ns)])}:=aBf (cK (lN _)) (aN2 ns h0 hn)
theorem aBg {l:List Int} {k:Nat} (h:k<l.length):l.drop k=it l k :: l.drop (k+1):=by
 rw[List.drop_eq_getElem_cons h];simp[it,h]
theorem aJa (s g:Nat) (x:Value):(lF (.eE [.agg [.own s g],.v x])).Nodup:=by simp[lF,iQ,gK]
theorem aJb (y x:Value):(lF (.eE [.agg [.v y],.v x])).Nodup:=by simp[lF,iQ,gK]
def AJ (e:Int):AV:=.eE [.agg [.v (.slice none 0 0)],.v (.int .i64 e)]
def chS (o:Option (List Node)):AV :=
 match o with
 | none=>.eE [.agg [.v (.slice none 0 0)],.v (.bool false)]
 | some r=>.eE [.agg [.uniq 76 240 r.length (cF r)],.v (.bool true)]
theorem aJc (ns:List Node) (h0:0<ns.length) (hn:(ns.length:Int)<1000000) (l:List Int) (hl:(l.length:Int)<1000000) (hm:∀x∈l,0≤x∧x<ns.length) (to never:Int) :
 aB Tryz.prog 247 [.agg (cD ⟨ns⟩),.sl l.length (aH l),.v (.int .i64 to),.v (.int .i64 never)]=some (chS (CZ to never l ns)):=by
 rw[cL Tryz.func247 rfl aJd rfl];simp only[ZZ,seval,hn];refine jP (fun n st=>∃(k:Nat) (cur:List Node),(st.env 1=.sl l.length (aH l)∧st.env 2=.v (.int .i64 to)∧st.env 3=.v (.int .i64 never)∧st.env 8=.ptr 8 0 0∧st.heap 8 0=some (.cells [.v (.slice none 0 0)])∧st.env 10=.ptr 10 0 0∧st.heap 10 0=some (.cells [.own 14 0])∧st.heap 14 0=some (.row 76 240 cur.length (cF cur))∧st.env 11=.v (.int .i64 k))∧cur.length=ns.length∧CZ to never l ns=CZ to never (l.drop k) cur∧k≤l.length∧n=l.length-k)
  (fun e st=>(e=.ret∧CZ to never l ns=none∧st.env 8=.ptr 8 0 0∧st.heap 8 0=some (.cells [.v (.slice none 0 0)])∧st.env 9=.v (.bool false))∨(e=.exit 0∧∃r,CZ to never l ns=some r∧st.env 8=.ptr 8 0 0∧st.heap 8 0=some (.cells [.v (.slice none 0 0)])∧st.env 10=.ptr 10 0 0∧st.heap 10 0=some (.cells [.own 14 0])∧st.heap 14 0=some (.row 76 240 r.length (cF r)))) l.length ?step ?start ?rest
 case step =>
  rintro n st ⟨k,cur,hI,Bf,hc,hk,Gd⟩
  by_cases aZ:(k:Int)<l.length
  ·have q0:(0:Int)≤k:=by omega
   have hw:IntKind.i64.wrap ((k:Int)+1)=((k+1:Nat):Int):=by rw[Dl _ (by omega) (by omega)];omega
   obtain⟨x0,x1⟩:=hm _ (yF q0 aZ)
   have x2:it l k<cur.length:=by omega
   rw[aBg (by omega)] at hc
   simp only[CZ] at hc;have hg:=RZ x0 x2
   by_cases hs:(nd cur (it l k)).status=never
   ·rw[if_pos hs] at hc;have hb:((nd cur (it l k)).status == never)=true:=by simp[hs]
    apply oT (.ret)
    ·simp only[ZZ,seval,hI,aZ,q0,x0,x2,hg,hb];rfl
    ·exact .inl ⟨rfl,hc,by simp only[EV,seval,hI],by simp only[EV,seval,hI],by simp only[EV,seval,hI]⟩
   ·rw[if_neg hs] at hc;have hb:((nd cur (it l k)).status == never)=false:=by simp[hs]
    have hu:=RY (s:=to) x0 x2
    have hle:(it l k).toNat * 240+239+1≤cur.length * 240:=by
     have:((it l k).toNat+1) * 240≤cur.length * 240:=Nat.mul_le_mul_right _ (by omega)
     omega
    have hle2:(it l k).toNat * 240+240≤cur.length * 240:=by omega
    apply oN (l.length-(k+1))
    ·simp only[ZZ,seval,hI,aZ,q0,x0,x2,hg,hb,hu,hle,hle2,hw];rfl
    ·exact⟨k+1,setAt cur (it l k) to,by simp only[EV,seval,hI,Cc],by rw[Cc];exact Bf,hc,by omega,rfl⟩
  ·obtain rfl:k=l.length:=by omega
   rw[List.drop_length] at hc;apply oT (.exit 0)
   ·simp only[ZZ,seval,hI,aZ];rfl
   ·exact .inr ⟨rfl,cur,hc,by simp only[EV,seval,hI]⟩
 case start=>exact⟨0,ns,by simp only[EV,seval]<;>rfl,rfl,rfl,by omega,by omega⟩
 case rest =>
  rintro e st (⟨rfl,hc,hI⟩|⟨rfl,r,hc,hI⟩)
  ·rw[hc];simp only[ZZ,seval];exact KR rfl (.inl rfl) rfl (x1:=.agg [.v (.slice none 0 0)]) (x2:=.v (.bool false)) (by simp only[bK,ZZ,seval,hI]) (by simp only[bK,ZZ,seval,hI]) (aJb _ _) (CY (ZS _) (XF _ _))
  ·rw[hc];simp only[ZZ,seval,hI];exact KR rfl (.inl rfl) rfl (x1:=.agg [.own 14 0]) (x2:=.v (.bool true)) (by simp only[bK,ZZ,seval,hI]) (by simp only[bK,ZZ,seval,hI]) (aJa _ _ _) (CY (CX (by simp only[EV,seval,hI]) (kN _)) (XF _ _))
theorem Ur {ns:List Node} (hu:fZ ns) {c:Int} (c0:0≤c) (c1:c<ns.length):0<(path ns c).length:=List.length_pos_iff.2 fun h=>by
 have:=uH hu c0 c1
 rw[h] at this;cases this
theorem Qd {ns:List Node} (hu:fZ ns) {c:Int} (c0:0≤c) (c1:c<ns.length):it (path ns c) ((path ns c).length-1:Int)=c:=by
 by_cases h:c=0
 ·subst h;rw[lO (by omega)]
  rfl
 ·rw[lP hu (by omega) c1]
  exact xO (by simp)
theorem KS {ns:List Node} (hu:fZ ns) {c:Int} (c0:0≤c) (c1:c<ns.length) {k:Int} (k0:0≤k) (k1:k<(path ns c).length-1):it (path ns c) k<c:=by
 by_cases h:c=0
 ·subst h;rw[lO (by omega)] at k1
  simp at k1
  omega
 ·obtain⟨u0,u1⟩:=hu c (by omega) c1
  rw[lP hu (by omega) c1] at k1 ⊢
  simp at k1
  rw[jS k0 (by omega)]
  have:=(Mr hu _ _ rfl u0 (by omega) _ (yF k0 (by omega:k<(path ns (nd ns c).up).length))).2
  omega
theorem SC {ns:List Node} (hu:fZ ns):∀(n:Nat) (c:Int),c.toNat=n→0≤c→c<ns.length→∀k:Int,1≤k→k<(path ns c).length→∀f:Nat,c.toNat≤f→Ms ns (it (path ns c) (k-1)) f c=it (path ns c) k:=by
 intro n;induction n using Nat.strongRecOn with
 | _ n ih =>
   intro c hc c0 c1 k k0 k1 f hf;by_cases h:c=0
   ·subst h;rw[lO (by omega)] at k1
    simp at k1
    omega
   ·obtain⟨u0,u1⟩:=hu c (by omega) c1
    obtain⟨f,rfl⟩:∃f',f=f'+1:=⟨f-1,by omega⟩
    rw[lP hu (by omega) c1] at k1 ⊢
    simp at k1
    simp only[Ms];rw[jS (by omega) (by omega)]
    by_cases hk:k=(path ns (nd ns c).up).length
    ·rw[xO hk,hk,Qd hu u0 (by omega),if_pos rfl]
    ·have aZ:=KS hu u0 (by omega) (k:=k-1) (by omega) (by omega)
     rw[jS (by omega) (by omega),if_neg (by omega)]
     exact ih (nd ns c).up.toNat (by omega) _ rfl u0 (by omega) k k0 (by omega) f (by omega)
theorem J0 {ns:List Node} (hu:fZ ns) {b:Int} (b0:0≤b) (b1:b<ns.length) {k:Int} (k0:1≤k) (k1:k<(path ns b).length):Ad ns (it (path ns b) (k-1)) b=it (path ns b) k:=by
 have h1:=KS hu b0 b1 (k:=k-1) (by omega) (by omega)
 have h2:vE ns (it (path ns b) (k-1)) b=true:=decide_eq_true (yF (by omega) (by omega))
 unfold Ad;rw[if_neg (by rintro (h|h);omega;rw[h2] at h;cases h)]
 exact SC hu _ b rfl b0 b1 k k0 k1 _ (Nat.le_refl _)
theorem SE {ns:List Node} (hu:fZ ns) {a b:Int} (h:∀k:Int,1≤k→k<(path ns b).length→it (path ns b) (k-1)≠a):Ad ns a b=-1:=by
 unfold Ad;by_cases hb:0≤b∧b<ns.length
 ·refine if_pos ?_
  by_cases hab:a=b
  ·exact .inl hab
  ·refine .inr ?_
   unfold vE;rw[decide_eq_false_iff_not];intro hm;obtain⟨j,hj,he⟩:=List.getElem_of_mem hm
   have hit:it (path ns b) j=a:=by rw[← he];simp[it,hj]
   by_cases hl:(j:Int)=(path ns b).length-1
   ·rw[hl,Qd hu hb.1 hb.2] at hit;exact hab hit.symm
   ·refine h (j+1) (by omega) (by omega) ?_
    rw[show (j:Int)+1-1=j by omega]
    exact hit
 ·refine if_pos (.inr (Qa hu fun h=>hb h.2))
theorem c64 (ns:List Node) (hu:fZ ns) (hn:(ns.length:Int)<1000000) (i:Int):aB Tryz.prog 64 [.agg (cD ⟨ns⟩),.v (.int .i64 i)]=some (if Fs ns i ns.length=[] then .v (.slice none 0 0) else .uniq 3 1 (Fs ns i ns.length).length (aH (Fs ns i ns.length))):=by
 rw[cL Tryz.func64 rfl aN5 rfl];have h41:=rV ns hu hn
 simp only[ZZ,seval];refine jP (fun n st=>∃k:Nat,st.env 1=.v (.int .i64 i)∧st.env 2=.ptr 2 0 0∧st.heap 2 0=some (.cells (cD ⟨ns⟩))∧st.env 6=.v (.int .i64 k) ∧
  ((Fs ns i k=[]∧st.env 5=.v (.slice none 0 0))∨(Fs ns i k≠[]∧∃g,st.env 5=.own 21 g∧g<st.aQ 21∧st.heap 21 g=some (.row 3 1 (Fs ns i k).length (aH (Fs ns i k)))))∧k≤ns.length∧n=ns.length-k)
  (fun e st=>e=.exit 0∧((Fs ns i ns.length=[]∧st.env 5=.v (.slice none 0 0))∨(Fs ns i ns.length≠[]∧∃g,st.env 5=.own 21 g∧g<st.aQ 21∧st.heap 21 g=some (.row 3 1 (Fs ns i ns.length).length (aH (Fs ns i ns.length)))))) ns.length ?step ?start ?rest
 case step =>
  rintro n st ⟨k,h1,h2,tU,h6,h5,hk,Gd⟩
  have hdl:=Up ns i k
  have hdl':((Fs ns i k).length:Int)<1000000:=by omega
  by_cases aZ:(k:Int)<ns.length
  ·have hw:IntKind.i64.wrap ((k:Int)+1)=((k+1:Nat):Int):=by rw[Dl _ (by omega) (by omega)];omega
   cases ha:vE ns i k
   ·have hs:Fs ns i (k+1)=Fs ns i k:=by simp only[Fs,ha,Bool.false_eq_true,if_false]
    rcases h5 with ⟨hy,h5⟩|⟨hy,g,h5,hg,zN⟩
    ·apply oN (ns.length-(k+1))
     ·simp only[ZZ,seval,h1,h2,tU,h6,h5,aZ,hw,h41,ha];rfl
     ·exact⟨k+1,by simp only[EV,seval,h1],by simp only[EV,seval,h2],by simp only[EV,seval,tU],(by simp only[EV,seval]),.inl ⟨by rw[hs];exact hy,by simp only[EV,seval,h5]⟩,by omega,rfl⟩
    ·apply oN (ns.length-(k+1))
     ·simp only[ZZ,seval,h1,h2,tU,h6,h5,zN,aZ,hw,h41,ha];rfl
     ·exact⟨k+1,by simp only[EV,seval,h1],by simp only[EV,seval,h2],by simp only[EV,seval,tU],(by simp only[EV,seval]),.inr ⟨by rw[hs];exact hy,g,by simp only[EV,seval,h5],(by simp only[EV,seval]<;>omega),(by rw[hs];simp only[EV,seval,zN])⟩,by omega,rfl⟩
   ·have hs:Fs ns i (k+1)=Fs ns i k++[(k:Int)]:=by simp only[Fs,ha,if_true]
    rcases h5 with ⟨hy,h5⟩|⟨hy,g,h5,hg,zN⟩
    ·rw[hy] at hs;apply oN (ns.length-(k+1))
     ·simp only[ZZ,seval,h1,h2,tU,h6,h5,aZ,hw,h41,ha];rfl
     ·exact⟨k+1,by simp only[EV,seval,h1],by simp only[EV,seval,h2],by simp only[EV,seval,tU],(by simp only[EV,seval]),.inr ⟨by rw[hs];simp,_,by simp only[EV,seval]<;>rfl,(by simp only[EV,seval]<;>omega),(by rw[hs];simp only[EV,seval]<;>rfl)⟩,by omega,rfl⟩
    ·apply oN (ns.length-(k+1))
     ·simp only[ZZ,seval,h1,h2,tU,h6,h5,zN,hdl',aZ,hw,h41,ha];rfl
     ·exact⟨k+1,by simp only[EV,seval,h1],by simp only[EV,seval,h2],by simp only[EV,seval,tU],(by simp only[EV,seval]),.inr ⟨by rw[hs];simp,_,by simp only[EV,seval]<;>rfl,(by simp only[EV,seval]<;>omega),(by rw[hs];simp only[EV,seval]<;>rfl)⟩,by omega,rfl⟩
  ·obtain rfl:k=ns.length:=by omega
   apply oT (.exit 0)
   ·simp only[ZZ,seval,h2,tU,h6,aZ];rfl
   ·exact⟨rfl,by simpa only[EV,seval] using h5⟩
 case start=>exact⟨0,(by simp only[EV,seval]),(by simp only[EV,seval]),(by simp only[EV,seval]),(by simp only[EV,seval]),.inl ⟨rfl,(by simp only[EV,seval])⟩,by omega,rfl⟩
 case rest =>
  rintro e st ⟨rfl,⟨hy,h5⟩|⟨hy,g,h5,hg,zN⟩⟩
  ·rw[if_pos hy];simp only[ZZ,seval,h5];exact bP rfl (by simp only[EV,seval]) (.v _)
  ·rw[if_neg hy];simp only[ZZ,seval,h5,zN];exact sU rfl (by simp only[EV,seval];rfl) (by simp only[EV,seval,zN]) (gB _)
theorem k64 (ns:List Node) (hu:fZ ns) (hn:(ns.length:Int)<1000000) (i:Int) (h:Fs ns i ns.length≠[]) (st:St) (d:Nat):aN (aB Tryz.prog) 64 [.agg (cD ⟨ns⟩),.v (.int .i64 i)] st (some d)=some { dst:=some d,val:=.own d (st.aQ d),new:=some (d,[.row 3 1 (Fs ns i ns.length).length (aH (Fs ns i ns.length))])}:=by
 have hc:=c64 ns hu hn i
 rw[if_neg h] at hc;exact jA (bA (lN _) (.v _)) hc
theorem c48 (ns:List Node) (hu:fZ ns) (hn:(ns.length:Int)<1000000) (a b:Int):aB Tryz.prog 48 [.agg (cD ⟨ns⟩),.v (.int .i64 a),.v (.int .i64 b)]=some (.v (.int .i64 (Ad ns a b))):=by
 rw[cL Tryz.func48 rfl aN7 rfl];by_cases hb:0≤b∧b<ns.length
 ·have hpl:=xD hu b
  have h0:=Ur hu hb.1 hb.2
  have hK:=k76 ns hu hn b hb.1 hb.2
  have hat:=fun k h h'=>J0 hu hb.1 hb.2 (k:=k) h h'
  have hno:=SE hu (a:=a) (b:=b)
  generalize path ns b=p at hpl h0 hK hat hno
  simp only[ZZ,seval,hK];refine jP (fun n st=>∃k:Int,(st.env 1=.v (.int .i64 a)∧st.env 7=.own 11 0∧st.heap 11 0=some (.row 3 1 p.length (aH p))∧st.env 8=.v (.int .i64 k))∧1≤k∧k≤p.length∧(∀j:Int,1≤j→j<k→it p (j-1)≠a)∧n=(p.length-k).toNat)
   (fun e st=>(e=.ret∧st.env 6=.v (.int .i64 (Ad ns a b)))∨(e=.exit 0∧Ad ns a b=-1)) (p.length-1) ?step ?start ?rest
  case step =>
   rintro n st ⟨k,hI,k1,k2,hj,Gd⟩
   by_cases aZ:k<p.length
   ·have hw:IntKind.i64.wrap (k+1)=k+1:=Dl _ (by omega) (by omega)
    have DA:IntKind.i64.wrap (k-1)=k-1:=Dl _ (by omega) (by omega)
    have q0:0≤k-1:=by omega
    have q1:k-1<p.length:=by omega
    have k0:0≤k:=by omega
    by_cases hr:it p (k-1)=a
    ·have I5:(it p (k-1) == a)=true:=by simp[hr]
     apply oT (.ret)
     ·simp only[ZZ,seval,hI,aZ,DA,q0,q1,k0,I5];rfl
     ·exact .inl ⟨rfl,by simp only[EV,seval];rw[← hr,hat k k1 aZ]⟩
    ·have I5:(it p (k-1) == a)=false:=by simp[hr]
     apply oN ((p.length-(k+1)).toNat)
     ·simp only[ZZ,seval,hI,aZ,hw,DA,q0,q1,I5];rfl
     ·exact⟨k+1,by simp only[EV,seval,hI],by omega,by omega,fun j j0 j1=>by
      rcases Int.lt_or_eq_of_le (show j≤k by omega) with h|rfl
      ·exact hj j j0 h
      ·exact hr,rfl⟩
   ·obtain rfl:k=p.length:=by omega
    apply oT (.exit 0)
    ·simp only[ZZ,seval,hI,aZ];rfl
    ·exact .inr ⟨rfl,hno fun j j0 j1=>hj j j0 j1⟩
  case start=>exact⟨1,(by simp only[EV,seval]),by omega,by omega,fun j _ _=>by omega,by omega⟩
  case rest =>
   rintro e st (⟨rfl,h⟩|⟨rfl,h⟩)
   ·simp only[ZZ,seval];exact bP rfl h (.v _)
   ·simp only[ZZ,seval];exact bP rfl (by simp only[EV,seval,h]) (.v _)
 ·have hv:Ad ns a b=-1:=by unfold Ad;exact if_pos (.inr (Qa hu fun h=>hb h.2))
  simp only[ZZ,seval,RR ns b hb,Cb];exact bP rfl (by simp only[EV,seval,hv]) (.v _)
theorem k48 (ns:List Node) (hu:fZ ns) (hn:(ns.length:Int)<1000000) (a b:Int) (st:St) (d:Option Nat):aN (aB Tryz.prog) 48 [.agg (cD ⟨ns⟩),.v (.int .i64 a),.v (.int .i64 b)] st d=some { dst:=d,val:=.v (.int .i64 (Ad ns a b))}:=bF (mW (lN _) (.v _) (.v _)) (c48 ns hu hn a b) (.v _)
theorem aBh (args:List AV) (st:St) (d:Option Nat):aN (aB Tryz.prog) 247 args st d=vN (aB Tryz.prog) 247 (bY (args.map (fV st))) (decide (∀x∈args,Flat x)) st d:=nH _ _ _ _ _
theorem j9:Flat (.agg [.v (.slice none 0 0)]):=.agg _ (cK (.v _))
theorem uK (e:Int):Flat (AJ e):=.eE _ (bA j9 (.v _))
def stA (o:Option (List Node)):AV :=
 match o with
 | none=>AJ 21
 | some r=>.eE [.agg (cD ⟨r⟩),.v (.int .i64 0)]
theorem KT (o:Option (List Node)):Flat (stA o):=by
 cases o with
 | none=>exact uK _
 | some r=>exact .eE _ (bA (lN _) (.v _))
noncomputable def raO (ns:List Node) (i:Int):Option (List Node):=CZ 1 2 (path ns i) ns
noncomputable def coO (ns:List Node) (i:Int):Option (List Node):=CZ 2 1 (Fs ns i ns.length) ns
noncomputable def G5 (ns:List Node) (i:Int):AV:=if 0≤i∧i<ns.length then stA (raO ns i) else AJ 10
noncomputable def G6 (ns:List Node) (i:Int):AV:=if 0≤i∧i<ns.length then stA (coO ns i) else AJ 10
theorem Us {ns:List Node} (hu:fZ ns) {i:Int}:∀x∈path ns i,0≤x∧x<ns.length:=fun x hx=>uI hu hx
theorem XJ (ns:List Node) (i:Int):∀x∈Fs ns i ns.length,0≤x∧x<ns.length:=fun x hx=>((XB ns i x _).1 hx).1
theorem aN9 (ns:List Node) (hu:fZ ns) (hn:(ns.length:Int)<1000000) (i:Int):aB Tryz.prog 236 [.agg (cD ⟨ns⟩),.v (.int .i64 i)]=some (G5 ns i):=by
 rw[cL Tryz.func236 rfl aJf rfl];unfold G5;by_cases hm:0≤i∧i<ns.length
 ·rw[if_pos hm];have hd:(decide (0≤i) && decide (i<ns.length))=true:=by simp[hm.1,hm.2]
  have h45:=k76 ns hu hn i hm.1 hm.2
  have hpl:=xD hu i
  have hc:=aJc ns (by omega) hn (path ns i) (by omega) (Us hu) 1 2
  unfold raO;cases ho:CZ 1 2 (path ns i) ns with
  | none =>
    rw[ho] at hc;have hK:=fun (fl:Bool) (st:St) (d:Option Nat)=>aI7 (fl:=fl) (st:=st) (d:=d) hc
    simp only[ZZ,seval,RA,hd,h45,aBh,hK,dM];exact dC rfl (by simp only[bK,ZZ,seval];rfl) (by simp only[bK,EV,seval]<;>rfl) (by simp only[EV,seval]<;>rfl) (by simp only[EV,seval]<;>rfl)
  | some r =>
    rw[ho] at hc;have hK:=fun (fl:Bool) (st:St) (d:Nat)=>aI6 (fl:=fl) (st:=st) (d:=d) hc (Vs r)
    simp only[ZZ,seval,RA,hd,h45,aBh,hK,dM];exact dC rfl (by simp only[bK,ZZ,seval];rfl) (by simp only[bK,EV,seval]<;>rfl) (by simp only[EV,seval]<;>rfl) (by simp only[EV,seval]<;>rfl)
 ·rw[if_neg hm];have hd:(decide (0≤i) && decide (i<ns.length))=false:=by rw[← Bool.not_eq_true];simpa using hm
  simp only[ZZ,seval,RA,hd];exact dC rfl (by simp only[bK,ZZ,seval];rfl) (by simp only[bK,EV,seval]<;>rfl) (by simp only[EV,seval]<;>rfl) (by simp only[EV,seval]<;>rfl)
theorem aOa (ns:List Node) (hu:fZ ns) (hn:(ns.length:Int)<1000000) (i:Int):aB Tryz.prog 238 [.agg (cD ⟨ns⟩),.v (.int .i64 i)]=some (G6 ns i):=by
 rw[cL Tryz.func238 rfl aJg rfl];unfold G6;by_cases hm:0≤i∧i<ns.length
 ·rw[if_pos hm];have hd:(decide (0≤i) && decide (i<ns.length))=true:=by simp[hm.1,hm.2]
  have h36:=k64 ns hu hn i (RU hu hm.1 hm.2 _ hm.2)
  have hdl:=Up ns i ns.length
  have hc:=aJc ns (by omega) hn (Fs ns i ns.length) (by omega) (XJ ns i) 2 1
  unfold coO;cases ho:CZ 2 1 (Fs ns i ns.length) ns with
  | none =>
    rw[ho] at hc;have hK:=fun (fl:Bool) (st:St) (d:Option Nat)=>aI7 (fl:=fl) (st:=st) (d:=d) hc
    simp only[ZZ,seval,RA,hd,h36,aBh,hK,dM];exact dC rfl (by simp only[bK,ZZ,seval];rfl) (by simp only[bK,EV,seval]<;>rfl) (by simp only[EV,seval]<;>rfl) (by simp only[EV,seval]<;>rfl)
  | some r =>
    rw[ho] at hc;have hK:=fun (fl:Bool) (st:St) (d:Nat)=>aI6 (fl:=fl) (st:=st) (d:=d) hc (Vs r)
    simp only[ZZ,seval,RA,hd,h36,aBh,hK,dM];exact dC rfl (by simp only[bK,ZZ,seval];rfl) (by simp only[bK,EV,seval]<;>rfl) (by simp only[EV,seval]<;>rfl) (by simp only[EV,seval]<;>rfl)
 ·rw[if_neg hm];have hd:(decide (0≤i) && decide (i<ns.length))=false:=by rw[← Bool.not_eq_true];simpa using hm
  simp only[ZZ,seval,RA,hd];exact dC rfl (by simp only[bK,ZZ,seval];rfl) (by simp only[bK,EV,seval]<;>rfl) (by simp only[EV,seval]<;>rfl) (by simp only[EV,seval]<;>rfl)
theorem KU (ns:List Node) (i:Int):Flat (G5 ns i):=by unfold G5;split;exact KT _;exact uK _
theorem Vv (ns:List Node) (i:Int):Flat (G6 ns i):=by unfold G6;split;exact KT _;exact uK _
theorem aJh (ns:List Node) (hu:fZ ns) (hn:(ns.length:Int)<1000000) (i:Int) (st:St) (d:Option Nat):aN (aB Tryz.prog) 236 [.agg (cD ⟨ns⟩),.v (.int .i64 i)] st d=some { dst:=d,val:=G5 ns i }:=bF (bA (lN _) (.v _)) (aN9 ns hu hn i) (KU ns i)
theorem aJi (ns:List Node) (hu:fZ ns) (hn:(ns.length:Int)<1000000) (i:Int) (st:St) (d:Option Nat):aN (aB Tryz.prog) 238 [.agg (cD ⟨ns⟩),.v (.int .i64 i)] st d=some { dst:=d,val:=G6 ns i }:=bF (bA (lN _) (.v _)) (aOa ns hu hn i) (Vv ns i)
end Go.Ab.Tryz
namespace Go.Ab.Tryz
open Classical Go.Proofs Go.Ab
end Go.Ab.Tryz
namespace Go.Ab.Tryz
open Classical Go.Proofs Go.Ab
theorem l4 (ns:List Node) (hn:(ns.length:Int)<1000000) (i:Int):(∃e,G5 ns i=.eE [.agg [.v (.slice none 0 0)],.v (.int .i64 e)])∨∃r:List Node,G5 ns i=.eE [.agg (cD ⟨r⟩),.v (.int .i64 0)]∧(r.length:Int)<1000000:=by
 unfold G5;split
 ·cases h:raO ns i with
  | none=>exact .inl ⟨21,rfl⟩
  | some r=>exact .inr ⟨r,rfl,by rw[FF _ _ _ h];exact hn⟩
 ·exact .inl ⟨10,rfl⟩
theorem DB (ns:List Node) (hn:(ns.length:Int)<1000000) (i:Int):(∃e,G6 ns i=.eE [.agg [.v (.slice none 0 0)],.v (.int .i64 e)])∨∃r:List Node,G6 ns i=.eE [.agg (cD ⟨r⟩),.v (.int .i64 0)]∧(r.length:Int)<1000000:=by
 unfold G6;split
 ·cases h:coO ns i with
  | none=>exact .inl ⟨21,rfl⟩
  | some r=>exact .inr ⟨r,rfl,by rw[FF _ _ _ h];exact hn⟩
 ·exact .inl ⟨10,rfl⟩
def pay (ns:List Node) (x:Int):bX:=(nd ns x).block.jF
noncomputable def yH (ns:List Node) (p:List Int):Nat→Option Nat
 | 0=>none
 | n+1=>if pay ns (it p ((p.length-(n+1):Nat):Int))=dT then yH ns p n else some (p.length-(n+1))
noncomputable def Gq (ns:List Node) (p:List Int) (h:bX):Nat→Option Nat
 | 0=>none
 | n+1=>if pay ns (it p (n:Int))=h then some n else Gq ns p h n
noncomputable def oO (ns:List Node) (i:Int) (h:bX):Int × Int :=
 if path ns i=[] then (-1,-1)
 else if h=dT then
  match yH ns (path ns i) (path ns i).length with
  | none=>(-1,i)
  | some k=>(if k=0 then -1 else it (path ns i) ((k:Int)-1),it (path ns i) k)
 else
  match Gq ns (path ns i) h ((path ns i).length-1) with
  | none=>(-1,i)
  | some k=>(it (path ns i) k,it (path ns i) ((k:Int)+1))
noncomputable def reA (ns:List Node) (i:Int) (h:bX):AV:=.eE [.v (.int .i64 (oO ns i h).1),.v (.int .i64 (oO ns i h).2)]
theorem DC {ns:List Node} {p:List Int}:∀(n k:Nat),n≤p.length→yH ns p n=some k→k<p.length
 | 0,k,_,h=>by simp[yH] at h
 | n+1,k,hn,h=>by
   simp only[yH] at h;split at h
   ·exact DC n k (by omega) h
   ·simp at h;omega
theorem KV {ns:List Node} {p:List Int} {h:bX}:∀(n k:Nat),Gq ns p h n=some k→k<n
 | 0,k,hk=>by simp[Gq] at hk
 | n+1,k,hk=>by
   simp only[Gq] at hk;split at hk
   ·simp at hk;omega
   ·have:=KV n k hk;omega
theorem SF {ns:List Node} {i:Int} {h:bX} (hp:path ns i=[]):oO ns i h=(-1,-1):=if_pos hp
theorem aFb {ns:List Node} {i j:Int} (i0:0≤i) (i1:i<ns.length) (j0:0≤j) (y:Node):nd (ns.set i.toNat y) j=if j=i then y else nd ns j:=by
 unfold nd;rw[List.getD_eq_getElem?_getD,List.getD_eq_getElem?_getD];by_cases h:j=i
 ·subst h;have:j.toNat<ns.length:=by omega
  simp[this]
 ·rw[if_neg h,List.getElem?_set_ne (by omega)]
theorem KW {to never:Int} (gR:to≠never):∀(l:List Int) (ns r:List Node),(∀x∈l,0≤x∧x<ns.length)→CZ to never l ns=some r →
 (∀x∈l,(nd ns x).status≠never)∧r.length=ns.length∧∀j:Int,0≤j→j<ns.length→nd r j=if j∈l then Vu (nd ns j) to else nd ns j
 | [],ns,r,_,h=>by
   simp only[CZ,Option.some.injEq] at h;subst h;exact⟨by simp,rfl,by simp⟩
 | i :: l,ns,r,hl,h=>by
   simp only[CZ] at h;split at h
   ·cases h
   ·rename_i hs;obtain⟨i0,i1⟩:=hl i (by simp)
    obtain⟨h1,h2,h3⟩:=KW gR l (setAt ns i to) r (fun x hx=>by rw[Cc];exact hl x (by simp[hx])) h
    rw[Cc] at h2 h3;have hnd:∀j:Int,0≤j→nd (setAt ns i to) j=if j=i then Vu (nd ns i) to else nd ns j:=fun j j0=>aFb i0 i1 j0 _
    refine⟨fun x hx=>?_,h2,fun j j0 j1=>?_⟩
    ·rcases List.mem_cons.1 hx with rfl|hx
     ·exact hs
     ·by_cases hxi:x=i
      ·subst hxi;exact hs
      ·have:=h1 x hx
       rw[hnd x (hl x (by simp[hx])).1,if_neg hxi] at this
       exact this
    ·rw[h3 j j0 j1,hnd j j0];by_cases hji:j=i
     ·subst hji;simp only[if_true,List.mem_cons,true_or];split<;>rfl
     ·simp[hji]
structure SG (a b:List Node):Prop where
 len:a.length=b.length
 up:∀j:Int,0≤j→j<a.length→(nd a j).up=(nd b j).up
theorem SG.aOc {a b:List Node} (h:SG a b) (hu:fZ a):fZ b:=fun i i0 i1=>by rw[← h.up i (by omega) (by rw[h.len];exact i1)];exact hu i i0 (by rw[h.len];exact i1)
structure Chd (ns r:List Node) (l:List Int) (to:Int):Prop where
 len:r.length=ns.length
 at_:∀j:Int,0≤j→j<ns.length→nd r j=if j∈l then Vu (nd ns j) to else nd ns j
theorem Chd.su {ns r:List Node} {l:List Int} {to:Int} (h:Chd ns r l to):SG ns r where
 len:=h.len.symm
 up:=fun j j0 j1=>by rw[h.at_ j j0 j1];split<;>rfl
theorem Chd.block {ns r:List Node} {l:List Int} {to:Int} (h:Chd ns r l to) {j:Int} (j0:0≤j) (j1:j<ns.length):(nd r j).block=(nd ns j).block:=by
 rw[h.at_ j j0 j1];split<;>rfl
theorem Chd.upE {ns r:List Node} {l:List Int} {to:Int} (h:Chd ns r l to) {j:Int} (j0:0≤j) (j1:j<ns.length):(nd r j).up=(nd ns j).up:=by
 rw[h.at_ j j0 j1];split<;>rfl
theorem Chd.st {ns r:List Node} {l:List Int} {to:Int} (h:Chd ns r l to) {j:Int} (j0:0≤j) (j1:j<ns.length):(nd r j).status=if j∈l then to else (nd ns j).status:=by
 rw[h.at_ j j0 j1];split<;>rfl
structure aFc (ns r:List Node) (i:Int):Prop where
 c:Chd ns r (path ns i) 1
 ok:∀x∈path ns i,(nd ns x).status≠2
theorem l5 {ns r:List Node} (hu:fZ ns) {i:Int} (h:raO ns i=some r):aFc ns r i:=by
 obtain⟨h1,h2,h3⟩:=KW (by decide) _ _ _ (Us hu) h
 exact⟨⟨h2,h3⟩,h1⟩
structure aH7 (ns r:List Node) (i:Int):Prop where
 c:Chd ns r (Fs ns i ns.length) 2
 ok:∀x∈Fs ns i ns.length,(nd ns x).status≠1
theorem DD {ns:List Node} (hu:fZ ns):∀(n:Nat) (c:Int),c.toNat=n→0≤c→c<ns.length→∀k:Int,1≤k→k<(path ns c).length→(nd ns (it (path ns c) k)).up=it (path ns c) (k-1):=by
 intro n;induction n using Nat.strongRecOn with
 | _ n ih =>
   intro c hc c0 c1 k k0 k1;by_cases h:c=0
   ·subst h;rw[lO (by omega)] at k1
    simp at k1
    omega
   ·obtain⟨u0,u1⟩:=hu c (by omega) c1
    rw[lP hu (by omega) c1] at k1 ⊢
    simp at k1
    by_cases hk:k=(path ns (nd ns c).up).length
    ·rw[xO hk,jS (by omega) (by omega),hk,Qd hu u0 (by omega)]
    ·rw[jS (by omega) (by omega),jS (by omega) (by omega)]
     exact ih (nd ns c).up.toNat (by omega) _ rfl u0 (by omega) k k0 (by omega)
theorem J1 {ns:List Node} (hu:fZ ns):∀(n:Nat) (c:Int),c.toNat=n→0≤c→c<ns.length→it (path ns c) 0=0:=by
 intro n;induction n using Nat.strongRecOn with
 | _ n ih =>
   intro c hc c0 c1;by_cases h:c=0
   ·subst h;rw[lO (by omega)];rfl
   ·obtain⟨u0,u1⟩:=hu c (by omega) c1
    have:=Ur hu u0 (by omega)
    rw[lP hu (by omega) c1,jS (Int.le_refl _) (by omega)]
    exact ih _ (by omega) _ rfl u0 (by omega)
theorem aOe (ns:List Node) (hu:fZ ns) (hr:(nd ns 0).up=-1) (hn:(ns.length:Int)<1000000) (i:Int) (h:bX):aB Tryz.prog 237 [.agg (cD ⟨ns⟩),.v (.int .i64 i),.agg (aY h)]=some (reA ns i h):=by
 rw[cL Tryz.func237 rfl aJj rfl];unfold reA;by_cases hm:0≤i∧i<ns.length
 ·have h45:=k76 ns hu hn i hm.1 hm.2
  have hpl:=xD hu i
  have hp0:=Ur hu hm.1 hm.2
  have hin:=Us hu (i:=i)
  have hpe:path ns i≠[]:=by intro h;rw[h] at hp0;simp at hp0
  have hq:(((path ns i).length:Int) == 0)=false:=by simp[hpe]
  have Uo:=fun k h h'=>DD hu _ i rfl hm.1 hm.2 k h h'
  have hi0:=J1 hu _ i rfl hm.1 hm.2
  unfold oO;rw[if_neg hpe];generalize path ns i=p at h45 hpl hp0 hin hq Uo hi0
  by_cases hz:h=dT
  ·have hd:decide (h=dT)=true:=decide_eq_true hz
   rw[if_pos hz];simp only[ZZ,seval,h45,hq,hd];refine jP (fun n st=>∃k:Nat,(st.env 1=.v (.int .i64 i)∧st.env 3=.ptr 3 0 0∧st.heap 3 0=some (.cells (cD ⟨ns⟩))∧st.env 8=.own 13 0∧st.heap 13 0=some (.row 3 1 p.length (aH p))∧st.env 9=.v (.int .i64 k))∧yH ns p p.length=yH ns p (p.length-k)∧k≤p.length∧n=p.length-k)
    (fun e st=>(e=.ret∧∃k,yH ns p p.length=some k∧st.env 6=.v (.int .i64 (if k=0 then -1 else it p ((k:Int)-1)))∧st.env 7=.v (.int .i64 (it p k)))∨(e=.exit 0∧yH ns p p.length=none∧st.env 1=.v (.int .i64 i))) p.length ?step ?start ?rest
   case step =>
    rintro n st ⟨k,hI,hf,hk,Gd⟩
    by_cases aZ:(k:Int)<p.length
    ·have q0:(0:Int)≤k:=by omega
     have hw:IntKind.i64.wrap ((k:Int)+1)=((k+1:Nat):Int):=by rw[Dl _ (by omega) (by omega)];omega
     obtain⟨x0,x1⟩:=hin _ (yF q0 aZ)
     obtain⟨m,hm'⟩:∃m,p.length-k=m+1:=⟨p.length-k-1,by omega⟩
     rw[hm'] at hf;simp only[yH] at hf;rw[show p.length-(m+1)=k by omega] at hf
     by_cases hpz:pay ns (it p k)=dT
     ·rw[if_pos hpz] at hf;have hd2:decide ((nd ns (it p k)).block.jF=dT)=true:=decide_eq_true hpz
      apply oN (p.length-(k+1))
      ·simp only[ZZ,seval,hI,aZ,q0,x0,x1,hd2,hw];rfl
      ·exact⟨k+1,by simp only[EV,seval,hI],by rw[hf,show p.length-(k+1)=m by omega],by omega,rfl⟩
     ·rw[if_neg hpz] at hf;have hd2:decide ((nd ns (it p k)).block.jF=dT)=false:=decide_eq_false hpz
      have hupk:(nd ns (it p k)).up=if k=0 then -1 else it p ((k:Int)-1):=by
       by_cases vM:k=0
       ·rw[if_pos vM,show ((k:Int))=0 by omega,hi0,hr]
       ·rw[if_neg vM,Uo k (by omega) aZ]
      apply oT (.ret)
      ·simp only[ZZ,seval,hI,aZ,q0,x0,x1,hd2];rfl
      ·exact .inl ⟨rfl,k,hf,by rw[← hupk];simp only[EV,seval],by simp only[EV,seval]⟩
    ·obtain rfl:k=p.length:=by omega
     rw[Nat.sub_self] at hf;apply oT (.exit 0)
     ·simp only[ZZ,seval,hI,aZ];rfl
     ·exact .inr ⟨rfl,hf,by simp only[EV,seval,hI]⟩
   case start=>exact⟨0,by simp only[EV,seval]<;>rfl,rfl,by omega,rfl⟩
   case rest =>
    rintro e st (⟨rfl,k,hf,h6,h7⟩|⟨rfl,hf,h1⟩)
    ·rw[hf];simp only[ZZ,seval];exact dC rfl (by simp only[bK,EV,seval,h6]<;>rfl) (by simp only[bK,EV,seval,h7]<;>rfl) (by simp only[EV,seval]<;>rfl) (by simp only[EV,seval]<;>rfl)
    ·rw[hf];simp only[ZZ,seval,h1];exact dC rfl (by simp only[bK,EV,seval]<;>rfl) (by simp only[bK,EV,seval]<;>rfl) (by simp only[EV,seval]<;>rfl) (by simp only[EV,seval]<;>rfl)
  ·have hd:decide (h=dT)=false:=decide_eq_false hz
   have hw0:IntKind.i64.wrap ((p.length:Int)-2)=(p.length:Int)-2:=Dl _ (by omega) (by omega)
   rw[if_neg hz];simp only[ZZ,seval,h45,hq,hd,hw0];refine jP (fun n st=>∃m:Nat,(st.env 1=.v (.int .i64 i)∧st.env 3=.ptr 3 0 0∧st.heap 3 0=some (.cells (cD ⟨ns⟩))∧st.env 5=.ptr 5 0 0∧st.heap 5 0=some (.cells (aY h))∧st.env 8=.own 13 0∧st.heap 13 0=some (.row 3 1 p.length (aH p))∧st.env 10=.v (.int .i64 ((m:Int)-1)))∧Gq ns p h (p.length-1)=Gq ns p h m∧m≤p.length-1∧n=m)
    (fun e st=>(e=.ret∧∃k,Gq ns p h (p.length-1)=some k∧st.env 6=.v (.int .i64 (it p k))∧st.env 7=.v (.int .i64 (it p ((k:Int)+1))))∨(e=.exit 2∧Gq ns p h (p.length-1)=none∧st.env 1=.v (.int .i64 i))) (p.length-1) ?step ?start ?rest
   case step =>
    rintro n st ⟨m,hI,hf,hm',Gd⟩
    by_cases aZ:(0:Int)≤(m:Int)-1
    ·obtain⟨k,rfl⟩:∃k,m=k+1:=⟨m-1,by omega⟩
     have e1:((k+1:Nat):Int)-1=k:=by omega
     rw[e1] at hI aZ;have k1:(k:Int)<p.length:=by omega
     have hw:IntKind.i64.wrap ((k:Int)-1)=(k:Int)-1:=Dl _ (by omega) (by omega)
     obtain⟨x0,x1⟩:=hin _ (yF aZ k1)
     simp only[Gq] at hf;by_cases hpz:pay ns (it p k)=h
     ·rw[if_pos hpz] at hf;have hd2:decide ((nd ns (it p k)).block.jF=h)=true:=decide_eq_true hpz
      have DA:IntKind.i64.wrap ((k:Int)+1)=(k:Int)+1:=Dl _ (by omega) (by omega)
      have r0:(0:Int)≤(k:Int)+1:=by omega
      have r1:(k:Int)+1<p.length:=by omega
      apply oT (.ret)
      ·simp only[ZZ,seval,hI,aZ,k1,x0,x1,hd2,DA,r0,r1];rfl
      ·exact .inl ⟨rfl,k,hf,by simp only[EV,seval],by simp only[EV,seval]⟩
     ·rw[if_neg hpz] at hf;have hd2:decide ((nd ns (it p k)).block.jF=h)=false:=decide_eq_false hpz
      apply oN (k)
      ·simp only[ZZ,seval,hI,aZ,k1,x0,x1,hd2,hw];rfl
      ·exact⟨k,by simp only[EV,seval,hI],hf,by omega,rfl⟩
    ·obtain rfl:m=0:=by omega
     apply oT (.exit 2)
     ·simp only[ZZ,seval,hI,aZ];rfl
     ·exact .inr ⟨rfl,hf,by simp only[EV,seval,hI]⟩
   case start =>
    have hs:(p.length:Int)-2=((p.length-1:Nat):Int)-1:=by omega
    exact⟨p.length-1,by simp only[EV,seval,hs],rfl,by omega,rfl⟩
   case rest =>
    rintro e st (⟨rfl,k,hf,h6,h7⟩|⟨rfl,hf,h1⟩)
    ·rw[hf];simp only[ZZ,seval];exact dC rfl (by simp only[bK,EV,seval,h6]<;>rfl) (by simp only[bK,EV,seval,h7]<;>rfl) (by simp only[EV,seval]<;>rfl) (by simp only[EV,seval]<;>rfl)
    ·rw[hf];simp only[ZZ,seval,h1];exact dC rfl (by simp only[bK,EV,seval]<;>rfl) (by simp only[bK,EV,seval]<;>rfl) (by simp only[EV,seval]<;>rfl) (by simp only[EV,seval]<;>rfl)
 ·rw[SF (xN hm)];have h45:=RR ns i hm
  simp only[ZZ,seval,h45];exact dC rfl (by simp only[bK,EV,seval]<;>rfl) (by simp only[bK,EV,seval]<;>rfl) (by simp only[EV,seval]<;>rfl) (by simp only[EV,seval]<;>rfl)
theorem J2 (ns:List Node) (i:Int) (h:bX):Flat (reA ns i h):=.eE _ (bA (.v _) (.v _))
theorem aOg (ns:List Node) (hu:fZ ns) (hr:(nd ns 0).up=-1) (hn:(ns.length:Int)<1000000) (i:Int) (h:bX) (st:St) (d:Option Nat):aN (aB Tryz.prog) 237 [.agg (cD ⟨ns⟩),.v (.int .i64 i),.agg (aY h)] st d=some { dst:=d,val:=.eE [.v (.int .i64 (oO ns i h).1),.v (.int .i64 (oO ns i h).2)]}:=bF (mW (lN _) (.v _) (pY _)) (aOe ns hu hr hn i h) (J2 ns i h)
theorem SH {ns:List Node} (hu:fZ ns) (hr:(nd ns 0).up=-1) {i:Int} (i0:0≤i) (i1:i<ns.length) (h:bX):(oO ns i h).2∈path ns i∧((oO ns i h).1<0∨((oO ns i h).1∈path ns i∧(nd ns (oO ns i h).2).up=(oO ns i h).1)):=by
 have hp0:=Ur hu i0 i1
 have hpe:path ns i≠[]:=by intro h;rw[h] at hp0;simp at hp0
 have DE:=uH hu i0 i1
 have Uo:=fun k h h'=>DD hu _ i rfl i0 i1 k h h'
 unfold oO;rw[if_neg hpe];by_cases hz:h=dT
 ·rw[if_pos hz];cases hf:yH ns (path ns i) (path ns i).length with
  | none=>exact⟨DE,.inl (by simp)⟩
  | some k =>
    have hk:=DC _ _ (Nat.le_refl _) hf
    simp only
    refine⟨yF (by omega) (by omega), ?_⟩
    by_cases vM:k=0
    ·rw[if_pos vM];exact .inl (by omega)
    ·rw[if_neg vM];exact .inr ⟨yF (by omega) (by omega),Uo k (by omega) (by omega)⟩
 ·rw[if_neg hz];cases hf:Gq ns (path ns i) h ((path ns i).length-1) with
  | none=>exact⟨DE,.inl (by simp)⟩
  | some k =>
    have hk:=KV _ _ hf
    simp only
    refine⟨yF (by omega) (by omega),.inr ⟨yF (by omega) (by omega), ?_⟩⟩
    have:=Uo ((k:Int)+1) (by omega) (by omega)
    rw[this];congr 1
    omega
def Vw (kv:AV) (l:List Int):Prop:=kv=.sl l.length (aH l)∨(l=[]∧kv=.v (.slice none 0 0))
theorem Vw.view {kv:AV} {l:List Int} (h:Vw kv l) (st:St):aT st kv=some (l.length,aH l):=by
 rcases h with rfl|⟨rfl,rfl⟩<;>rfl
theorem Vw.idx {kv:AV} {l:List Int} (h:Vw kv l) (st:St) {k:IntKind} {i:Int} (h0:0≤i) (h1:i<l.length):bD Tryz.prog st 22 kv (.v (.int k i))=some (.ip (oZ (it l i)) 0):=by
 rcases h with rfl|⟨rfl,rfl⟩
 ·exact aDX st h0 h1
 ·simp at h1;omega
theorem Vw.flat {kv:AV} {l:List Int} (h:Vw kv l):Flat kv:=by
 rcases h with rfl|⟨rfl,rfl⟩
 ·exact Dm l
 ·exact .v _
def XK (ns:List Node) (c:Int) (l:List Int):Prop:=∃k∈l,vE ns c k=true
noncomputable def J3 (ns:List Node) (i:Int) (h:bX) (l:List Int):AV :=
 if XK ns (oO ns i h).2 l then AJ 21
 else if 0≤(oO ns i h).1 then
  match raO ns (oO ns i h).1 with
  | none=>AJ 21
  | some r=>G6 r (oO ns i h).2
 else G6 ns (oO ns i h).2
noncomputable def SI (ns:List Node) (i:Int) (v:gN) (l:List Int):AV :=
 if ¬(0≤i∧i<ns.length) then AJ 10
 else if v.kind=1 then G5 ns i
 else if v.kind=2 then J3 ns i v.dR l
 else if v.kind=3∨v.kind=4 then .eE [.agg (cD ⟨ns⟩),.v (.int .i64 0)]
 else AJ 2
theorem l6 (ns:List Node) (i:Int) (h:bX) (l:List Int):Flat (J3 ns i h l):=by
 unfold J3;split
 ·exact uK _
 ·split
  ·split
   ·exact uK _
   ·exact Vv _ _
  ·exact Vv _ _
theorem l7 (ns:List Node) (i:Int) (v:gN) (l:List Int):Flat (SI ns i v l):=by
 unfold SI;split
 ·exact uK _
 ·split
  ·exact KU _ _
  ·split
   ·exact l6 _ _ _ _
   ·split
    ·exact .eE _ (bA (lN _) (.v _))
    ·exact uK _
end Go.Ab.Tryz
