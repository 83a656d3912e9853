/-
  Part 8 of the proof: an evaluator of programs, its soundness, and what functions of this program compute.
-/
import Derived.Test.YtmcjkemalibacaaGreatK7
import Derived.Test.YtmcjkemalibacaaGreatProg
import Derived.KernelRfl
set_option linter.all false
set_option maxRecDepth 20000
set_option maxHeartbeats 40000000
namespace Go.Ab.Tryz
open Classical Go.Proofs Go.Ab
theorem mixed:Tryz.prog.follows .mixedOrders=true:=by kernel_rfl
theorem ld3 (cs:List AV) (o:Nat):fB Tryz.prog 3 cs o=cs[o]?:=by
 have:fQ Tryz.prog 3=some (false,1):=by kernel_rfl
 simp only[fB,this]
theorem ik3:intKind Tryz.prog 3=some .i64:=by kernel_rfl
theorem lk3:sO Tryz.prog 3=some 1:=by kernel_rfl
theorem ze3:eH Tryz.prog 3=some [.int .i64 0]:=by kernel_rfl
theorem aS4 (cs:List AV) (o:Nat):fB Tryz.prog 23 cs o=cs[o]?:=by
 have:fQ Tryz.prog 23=some (false,1):=by kernel_rfl
 simp only[fB,this]
theorem aS5:intKind Tryz.prog 23=some .u64:=by kernel_rfl
theorem UC:sO Tryz.prog 23=some 1:=by kernel_rfl
theorem aHG:eH Tryz.prog 23=some [.int .u64 0]:=by kernel_rfl
theorem aS6:intKind Tryz.prog 61=some .u64:=by kernel_rfl
theorem aS7:sO Tryz.prog 61=some 1:=by kernel_rfl
theorem aS8:eH Tryz.prog 61=some [.int .u64 0]:=by kernel_rfl
theorem ld5 (cs:List AV) (o:Nat):fB Tryz.prog 5 cs o=cs[o]?:=by
 have:fQ Tryz.prog 5=some (false,1):=by kernel_rfl
 simp only[fB,this]
theorem ik5:intKind Tryz.prog 5=some .u8:=by kernel_rfl
theorem lk5:sO Tryz.prog 5=some 1:=by kernel_rfl
theorem ze5:eH Tryz.prog 5=some [.int .u8 0]:=by kernel_rfl
theorem ik2:intKind Tryz.prog 2=some .i64:=by kernel_rfl
theorem lk2:sO Tryz.prog 2=some 1:=by kernel_rfl
theorem ze2:eH Tryz.prog 2=some [.int .i64 0]:=by kernel_rfl
theorem aS9:intKind Tryz.prog 64=some .i64:=by kernel_rfl
theorem aTa:sO Tryz.prog 64=some 1:=by kernel_rfl
theorem aTb:eH Tryz.prog 64=some [.int .i64 0]:=by kernel_rfl
theorem ld4 (cs:List AV) (o:Nat):fB Tryz.prog 4 cs o=cs[o]?:=by
 have:fQ Tryz.prog 4=some (false,1):=by kernel_rfl
 simp only[fB,this]
theorem lk4:sO Tryz.prog 4=some 1:=by kernel_rfl
theorem ze4:eH Tryz.prog 4=some [.bool false]:=by kernel_rfl
theorem be4 (a b:Bool):gL Tryz.prog .eql 4 (.v (.bool a)) (.v (.bool b))=some (.v (.bool (a == b))):=by
 have:Tryz.prog.underlying 4=some .bool:=by kernel_rfl
 simp only[gL,this]
theorem aTc (cs:List AV) (o:Nat) (h:32≤cs.length-o):fB Tryz.prog 27 cs o=some (.agg (rd cs o 32)):=by
 have:fQ Tryz.prog 27=some (true,32):=by kernel_rfl
 simp[fB,this,h]
theorem aKT:sO Tryz.prog 27=some 32:=by kernel_rfl
theorem aNv:eH Tryz.prog 27=some tJ:=by kernel_rfl
theorem aHH (a b:cJ):wJ Tryz.prog 27 (bD a) (bD b)=some (decide (a=b)):=sK (l:=Ia) (by kernel_rfl) (by kernel_rfl) (by kernel_rfl) (nP a b) (pY a b)
theorem aTd (a b:cJ):gL Tryz.prog .eql 27 (.agg (bD a)) (.agg (bD b))=some (.v (.bool (decide (a=b)))):=by simp only[gL,aHH,Option.map_some]
theorem aTe (a b:cJ):gL Tryz.prog .neq 27 (.agg (bD a)) (.agg (bD b))=some (.v (.bool (!(decide (a=b))))):=by simp only[gL,aHH,Option.map_some]
theorem aF9:jJ Tryz.prog 27=some (32,1):=by kernel_rfl
theorem aTf (st:St) (parts:List (Nat × Operand)):iW Tryz.prog st 27 parts=if (parts.all fun p=>(st.ev p.2).jD)=true then (gS (fun i=>some (i * 1,1)) (bD dR) (parts.map fun p=>(p.1,st.ev p.2))).map .agg else none:=iG (z:=tJ) (by kernel_rfl) jL (Tp (by kernel_rfl))
theorem aTg (cs:List AV) (o:Nat) (h:4≤cs.length-o):fB Tryz.prog 33 cs o=some (.agg (rd cs o 4)):=by
 have:fQ Tryz.prog 33=some (true,4):=by kernel_rfl
 simp[fB,this,h]
theorem aTh:sO Tryz.prog 33=some 4:=by kernel_rfl
theorem aTi:eH Tryz.prog 33=some Zh:=by kernel_rfl
theorem aNw (a b:qN):wJ Tryz.prog 33 (gI a) (gI b)=some (decide (a=b)):=sK (l:=o6) (by kernel_rfl) (by kernel_rfl) (by kernel_rfl) (Lz a b) (Rq a b)
theorem aTj (a b:qN):gL Tryz.prog .neq 33 (.agg (gI a)) (.agg (gI b))=some (.v (.bool (!(decide (a=b))))):=by simp only[gL,aNw,Option.map_some]
theorem aKD:jJ Tryz.prog 33=some (4,1):=by kernel_rfl
theorem aTk (st:St) (parts:List (Nat × Operand)):iW Tryz.prog st 33 parts=if (parts.all fun p=>(st.ev p.2).jD)=true then (gS (fun i=>some (i * 1,1)) (gI FV) (parts.map fun p=>(p.1,st.ev p.2))).map .agg else none:=iG (z:=Zh) (by kernel_rfl) jM (Tp (by kernel_rfl))
theorem aTl (cs:List AV) (o:Nat) (h:33≤cs.length-o):fB Tryz.prog 41 cs o=some (.agg (rd cs o 33)):=by
 have:fQ Tryz.prog 41=some (true,33):=by kernel_rfl
 simp[fB,this,h]
theorem aTm:sO Tryz.prog 41=some 33:=by kernel_rfl
theorem aHI:aZ Tryz.prog 41 0=some 0:=by kernel_rfl
theorem aHJ:aZ Tryz.prog 41 1=some 1:=by kernel_rfl
theorem aGe:eH Tryz.prog 41=some zL:=by kernel_rfl
theorem aHK (a b:dP):wJ Tryz.prog 41 (aY a) (aY b)=some (decide (a=b)):=sK (l:=Tr) (by kernel_rfl) (by kernel_rfl) (by kernel_rfl) (tA a b) (mU a b)
theorem aTn (a b:dP):gL Tryz.prog .eql 41 (.agg (aY a)) (.agg (aY b))=some (.v (.bool (decide (a=b)))):=by simp only[gL,aHK,Option.map_some]
theorem aTo (a b:dP):gL Tryz.prog .neq 41 (.agg (aY a)) (.agg (aY b))=some (.v (.bool (!(decide (a=b))))):=by simp only[gL,aHK,Option.map_some]
theorem aTp (st:St) (parts:List (Nat × Operand)):iW Tryz.prog st 41 parts=if (parts.all fun p=>(st.ev p.2).jD)=true then (gS (fun i=>([(0,1),(1,32)]:List (Nat × Nat))[i]?) (aY gN) (parts.map fun p=>(p.1,st.ev p.2))).map .agg else none:=iG (z:=zL) (by kernel_rfl) Be (fC (by kernel_rfl))
theorem aTq (cs:List AV) (o:Nat) (h:66≤cs.length-o):fB Tryz.prog 72 cs o=some (.agg (rd cs o 66)):=by
 have:fQ Tryz.prog 72=some (true,66):=by kernel_rfl
 simp[fB,this,h]
theorem aTr:sO Tryz.prog 72=some 66:=by kernel_rfl
theorem aHL:aZ Tryz.prog 72 0=some 0:=by kernel_rfl
theorem aHM:aZ Tryz.prog 72 1=some 33:=by kernel_rfl
theorem aTs:eH Tryz.prog 72=some Pf:=by kernel_rfl
theorem aTt (st:St) (parts:List (Nat × Operand)):iW Tryz.prog st 72 parts=if (parts.all fun p=>(st.ev p.2).jD)=true then (gS (fun i=>([(0,33),(33,33)]:List (Nat × Nat))[i]?) (fL Nq) (parts.map fun p=>(p.1,st.ev p.2))).map .agg else none:=iG (z:=Pf) (by kernel_rfl) Rr (fC (by kernel_rfl))
theorem aTu (cs:List AV) (o:Nat) (h:238≤cs.length-o):fB Tryz.prog 74 cs o=some (.agg (rd cs o 238)):=by
 have:fQ Tryz.prog 74=some (true,238):=by kernel_rfl
 simp[fB,this,h]
theorem NB:sO Tryz.prog 74=some 238:=by kernel_rfl
theorem aHN:aZ Tryz.prog 74 0=some 0:=by kernel_rfl
theorem aHO:aZ Tryz.prog 74 1=some 66:=by kernel_rfl
theorem aHP:aZ Tryz.prog 74 2=some 67:=by kernel_rfl
theorem aHQ:aZ Tryz.prog 74 3=some 99:=by kernel_rfl
theorem aHR:aZ Tryz.prog 74 4=some 131:=by kernel_rfl
theorem aHS:aZ Tryz.prog 74 5=some 163:=by kernel_rfl
theorem aHT:aZ Tryz.prog 74 6=some 167:=by kernel_rfl
theorem aHU:aZ Tryz.prog 74 7=some 171:=by kernel_rfl
theorem aHV:aZ Tryz.prog 74 8=some 204:=by kernel_rfl
theorem aHW:aZ Tryz.prog 74 9=some 237:=by kernel_rfl
theorem aCS:eH Tryz.prog 74=some Hn:=by kernel_rfl
theorem aHX (a b:Block):wJ Tryz.prog 74 (aV a) (aV b)=some (decide (a=b)):=sK (l:=WZ) (by kernel_rfl) (by kernel_rfl) (by kernel_rfl) (Ts a b) (Zk a b)
theorem aTv (a b:Block):gL Tryz.prog .eql 74 (.agg (aV a)) (.agg (aV b))=some (.v (.bool (decide (a=b)))):=by simp only[gL,aHX,Option.map_some]
theorem aTw (a b:Block):gL Tryz.prog .neq 74 (.agg (aV a)) (.agg (aV b))=some (.v (.bool (!(decide (a=b))))):=by simp only[gL,aHX,Option.map_some]
theorem aTx (st:St) (parts:List (Nat × Operand)):iW Tryz.prog st 74 parts=if (parts.all fun p=>(st.ev p.2).jD)=true then (gS (fun i=>([(0,66),(66,1),(67,32),(99,32),(131,32),(163,4),(167,4),(171,33),(204,33),(237,1)]:List (Nat × Nat))[i]?) (aV dY) (parts.map fun p=>(p.1,st.ev p.2))).map .agg else none:=iG (z:=Hn) (by kernel_rfl) Pj (fC (by kernel_rfl))
theorem aTy (cs:List AV) (o:Nat) (h:240≤cs.length-o):fB Tryz.prog 76 cs o=some (.agg (rd cs o 240)):=by
 have:fQ Tryz.prog 76=some (true,240):=by kernel_rfl
 simp[fB,this,h]
theorem aTz:sO Tryz.prog 76=some 240:=by kernel_rfl
theorem aHY:aZ Tryz.prog 76 0=some 0:=by kernel_rfl
theorem aHZ:aZ Tryz.prog 76 1=some 238:=by kernel_rfl
theorem aH0:aZ Tryz.prog 76 2=some 239:=by kernel_rfl
theorem aH1:eH Tryz.prog 76=some Zl:=by kernel_rfl
theorem aNx (a b:Node):wJ Tryz.prog 76 (fG a) (fG b)=some (decide (a=b)):=sK (l:=aFH) (by kernel_rfl) (by kernel_rfl) (by kernel_rfl) (Wl a b) (H6 a b)
theorem aTA (a b:Node):gL Tryz.prog .neq 76 (.agg (fG a)) (.agg (fG b))=some (.v (.bool (!(decide (a=b))))):=by simp only[gL,aNx,Option.map_some]
theorem aTB (st:St) (parts:List (Nat × Operand)):iW Tryz.prog st 76 parts=if (parts.all fun p=>(st.ev p.2).jD)=true then (gS (fun i=>([(0,238),(238,1),(239,1)]:List (Nat × Nat))[i]?) (fG o9) (parts.map fun p=>(p.1,st.ev p.2))).map .agg else none:=iG (z:=Zl) (by kernel_rfl) JC (fC (by kernel_rfl))
theorem aTC (cs:List AV) (o:Nat) (h:1≤cs.length-o):fB Tryz.prog 50 cs o=some (.agg (rd cs o 1)):=by
 have:fQ Tryz.prog 50=some (true,1):=by kernel_rfl
 simp[fB,this,h]
theorem aTD:sO Tryz.prog 50=some 1:=by kernel_rfl
theorem aH2:aZ Tryz.prog 50 0=some 0:=by kernel_rfl
theorem aTE:eH Tryz.prog 50=some [.slice none 0 0]:=by kernel_rfl
theorem aTF (st:St) (parts:List (Nat × Operand)):iW Tryz.prog st 50 parts=if (parts.all fun p=>(st.ev p.2).jD)=true then (gS (fun i=>([(0,1)]:List (Nat × Nat))[i]?) [.v (.slice none 0 0)] (parts.map fun p=>(p.1,st.ev p.2))).map .agg else none:=iG (z:=[.slice none 0 0]) (by kernel_rfl) rfl (fC (by kernel_rfl))
theorem aTG:sO Tryz.prog 25=some 1:=by kernel_rfl
theorem aH3:aZ Tryz.prog 25 0=some 0:=by kernel_rfl
theorem aTH:eH Tryz.prog 25=some Jm:=by kernel_rfl
theorem aTI (st:St) (parts:List (Nat × Operand)):iW Tryz.prog st 25 parts=if (parts.all fun p=>(st.ev p.2).jD)=true then (gS (fun i=>([(0,1)]:List (Nat × Nat))[i]?) (mP Vn) (parts.map fun p=>(p.1,st.ev p.2))).map .agg else none:=iG (z:=Jm) (by kernel_rfl) Jn (fC (by kernel_rfl))
theorem aTJ (cs:List AV) (o:Nat) (h:34≤cs.length-o):fB Tryz.prog 29 cs o=some (.agg (rd cs o 34)):=by
 have:fQ Tryz.prog 29=some (true,34):=by kernel_rfl
 simp[fB,this,h]
theorem aTK:sO Tryz.prog 29=some 34:=by kernel_rfl
theorem aH4:aZ Tryz.prog 29 0=some 0:=by kernel_rfl
theorem aH5:aZ Tryz.prog 29 1=some 1:=by kernel_rfl
theorem aH6:aZ Tryz.prog 29 2=some 2:=by kernel_rfl
theorem aTL:eH Tryz.prog 29=some Dh:=by kernel_rfl
theorem aNy (a b:gV):wJ Tryz.prog 29 (dJ a) (dJ b)=some (decide (a=b)):=sK (l:=QW) (by kernel_rfl) (by kernel_rfl) (by kernel_rfl) (CQ a b) (JI a b)
theorem aTM (a b:gV):gL Tryz.prog .eql 29 (.agg (dJ a)) (.agg (dJ b))=some (.v (.bool (decide (a=b)))):=by simp only[gL,aNy,Option.map_some]
theorem aTN (st:St) (parts:List (Nat × Operand)):iW Tryz.prog st 29 parts=if (parts.all fun p=>(st.ev p.2).jD)=true then (gS (fun i=>([(0,1),(1,1),(2,32)]:List (Nat × Nat))[i]?) (dJ Zo) (parts.map fun p=>(p.1,st.ev p.2))).map .agg else none:=iG (z:=Dh) (by kernel_rfl) Me (fC (by kernel_rfl))
theorem aTO (cs:List AV) (o:Nat) (h:6≤cs.length-o):fB Tryz.prog 31 cs o=some (.agg (rd cs o 6)):=by
 have:fQ Tryz.prog 31=some (true,6):=by kernel_rfl
 simp[fB,this,h]
theorem aTP:sO Tryz.prog 31=some 6:=by kernel_rfl
theorem aH7:aZ Tryz.prog 31 0=some 0:=by kernel_rfl
theorem aH8:aZ Tryz.prog 31 1=some 1:=by kernel_rfl
theorem aH9:aZ Tryz.prog 31 2=some 2:=by kernel_rfl
theorem aIa:aZ Tryz.prog 31 3=some 3:=by kernel_rfl
theorem aIb:aZ Tryz.prog 31 4=some 4:=by kernel_rfl
theorem aIc:aZ Tryz.prog 31 5=some 5:=by kernel_rfl
theorem aTQ:eH Tryz.prog 31=some Pq:=by kernel_rfl
theorem aNz (a b:lD):wJ Tryz.prog 31 (fP a) (fP b)=some (decide (a=b)):=sK (l:=p8) (by kernel_rfl) (by kernel_rfl) (by kernel_rfl) (JK a b) (QX a b)
theorem aTR (a b:lD):gL Tryz.prog .neq 31 (.agg (fP a)) (.agg (fP b))=some (.v (.bool (!(decide (a=b))))):=by simp only[gL,aNz,Option.map_some]
theorem aTS (st:St) (parts:List (Nat × Operand)):iW Tryz.prog st 31 parts=if (parts.all fun p=>(st.ev p.2).jD)=true then (gS (fun i=>([(0,1),(1,1),(2,1),(3,1),(4,1),(5,1)]:List (Nat × Nat))[i]?) (fP JJ) (parts.map fun p=>(p.1,st.ev p.2))).map .agg else none:=iG (z:=Pq) (by kernel_rfl) Rz (fC (by kernel_rfl))
theorem aTT (cs:List AV) (o:Nat) (h:45≤cs.length-o):fB Tryz.prog 36 cs o=some (.agg (rd cs o 45)):=by
 have:fQ Tryz.prog 36=some (true,45):=by kernel_rfl
 simp[fB,this,h]
theorem aTU:sO Tryz.prog 36=some 45:=by kernel_rfl
theorem aId:aZ Tryz.prog 36 0=some 0:=by kernel_rfl
theorem aIe:aZ Tryz.prog 36 1=some 6:=by kernel_rfl
theorem aIf:aZ Tryz.prog 36 2=some 7:=by kernel_rfl
theorem aIg:aZ Tryz.prog 36 3=some 8:=by kernel_rfl
theorem aIh:aZ Tryz.prog 36 4=some 12:=by kernel_rfl
theorem aIi:aZ Tryz.prog 36 5=some 44:=by kernel_rfl
theorem aTV:eH Tryz.prog 36=some Pv:=by kernel_rfl
theorem aTW (st:St) (parts:List (Nat × Operand)):iW Tryz.prog st 36 parts=if (parts.all fun p=>(st.ev p.2).jD)=true then (gS (fun i=>([(0,6),(6,1),(7,1),(8,4),(12,32),(44,1)]:List (Nat × Nat))[i]?) (bV mO) (parts.map fun p=>(p.1,st.ev p.2))).map .agg else none:=iG (z:=Pv) (by kernel_rfl) Sb (fC (by kernel_rfl))
theorem aNA (cs:List AV) (o:Nat) (h:34≤cs.length-o):fB Tryz.prog 100 cs o=some (.agg (rd cs o 34)):=by
 have:fQ Tryz.prog 100=some (true,34):=by kernel_rfl
 simp[fB,this,h]
theorem aE0:sO Tryz.prog 100=some 34:=by kernel_rfl
theorem aDP:aZ Tryz.prog 100 0=some 0:=by kernel_rfl
theorem aDQ:aZ Tryz.prog 100 1=some 1:=by kernel_rfl
theorem aDR:aZ Tryz.prog 100 2=some 2:=by kernel_rfl
theorem aFK:eH Tryz.prog 100=some p9:=by kernel_rfl
theorem aFL (a b:kN):wJ Tryz.prog 100 (jN a) (jN b)=some (decide (a=b)):=sK (l:=aFJ) (by kernel_rfl) (by kernel_rfl) (by kernel_rfl) (XM a b) (I5 a b)
theorem aNB (a b:kN):gL Tryz.prog .neq 100 (.agg (jN a)) (.agg (jN b))=some (.v (.bool (!(decide (a=b))))):=by simp only[gL,aFL,Option.map_some]
theorem aNC (st:St) (parts:List (Nat × Operand)):iW Tryz.prog st 100 parts=if (parts.all fun p=>(st.ev p.2).jD)=true then (gS (fun i=>([(0,1),(1,1),(2,32)]:List (Nat × Nat))[i]?) (jN tI) (parts.map fun p=>(p.1,st.ev p.2))).map .agg else none:=iG (z:=p9) (by kernel_rfl) r7 (fC (by kernel_rfl))
theorem aTX (cs:List AV) (o:Nat) (h:67≤cs.length-o):fB Tryz.prog 87 cs o=some (.agg (rd cs o 67)):=by
 have:fQ Tryz.prog 87=some (true,67):=by kernel_rfl
 simp[fB,this,h]
theorem aTY:sO Tryz.prog 87=some 67:=by kernel_rfl
theorem aIj:aZ Tryz.prog 87 0=some 0:=by kernel_rfl
theorem aIk:aZ Tryz.prog 87 1=some 1:=by kernel_rfl
theorem aIl:aZ Tryz.prog 87 2=some 33:=by kernel_rfl
theorem aIm:aZ Tryz.prog 87 3=some 66:=by kernel_rfl
theorem aND:eH Tryz.prog 87=some aA1:=by kernel_rfl
theorem aTZ (st:St) (parts:List (Nat × Operand)):iW Tryz.prog st 87 parts=if (parts.all fun p=>(st.ev p.2).jD)=true then (gS (fun i=>([(0,1),(1,32),(33,33),(66,1)]:List (Nat × Nat))[i]?) (iB Hk) (parts.map fun p=>(p.1,st.ev p.2))).map .agg else none:=iG (z:=aA1) (by kernel_rfl) XN (fC (by kernel_rfl))
theorem aNE (cs:List AV) (o:Nat) (h:35≤cs.length-o):fB Tryz.prog 186 cs o=some (.agg (rd cs o 35)):=by
 have:fQ Tryz.prog 186=some (true,35):=by kernel_rfl
 simp[fB,this,h]
theorem aNF:sO Tryz.prog 186=some 35:=by kernel_rfl
theorem aDS:aZ Tryz.prog 186 0=some 0:=by kernel_rfl
theorem aDT:aZ Tryz.prog 186 1=some 1:=by kernel_rfl
theorem aDU:aZ Tryz.prog 186 2=some 2:=by kernel_rfl
theorem aDV:aZ Tryz.prog 186 3=some 34:=by kernel_rfl
theorem aNG:eH Tryz.prog 186=some Sc:=by kernel_rfl
theorem aNH (st:St) (parts:List (Nat × Operand)):iW Tryz.prog st 186 parts=if (parts.all fun p=>(st.ev p.2).jD)=true then (gS (fun i=>([(0,1),(1,1),(2,32),(34,1)]:List (Nat × Nat))[i]?) (gU JP) (parts.map fun p=>(p.1,st.ev p.2))).map .agg else none:=iG (z:=Sc) (by kernel_rfl) Zs (fC (by kernel_rfl))
theorem aNI (cs:List AV) (o:Nat) (h:70≤cs.length-o):fB Tryz.prog 188 cs o=some (.agg (rd cs o 70)):=by
 have:fQ Tryz.prog 188=some (true,70):=by kernel_rfl
 simp[fB,this,h]
theorem aNJ:sO Tryz.prog 188=some 70:=by kernel_rfl
theorem aDW:aZ Tryz.prog 188 0=some 0:=by kernel_rfl
theorem aDX:aZ Tryz.prog 188 1=some 35:=by kernel_rfl
theorem aNK:eH Tryz.prog 188=some Dv:=by kernel_rfl
theorem aNL (st:St) (parts:List (Nat × Operand)):iW Tryz.prog st 188 parts=if (parts.all fun p=>(st.ev p.2).jD)=true then (gS (fun i=>([(0,35),(35,35)]:List (Nat × Nat))[i]?) (cC Sd) (parts.map fun p=>(p.1,st.ev p.2))).map .agg else none:=iG (z:=Dv) (by kernel_rfl) Ii (fC (by kernel_rfl))
theorem aNM (cs:List AV) (o:Nat) (h:34≤cs.length-o):fB Tryz.prog 118 cs o=some (.agg (rd cs o 34)):=by
 have:fQ Tryz.prog 118=some (true,34):=by kernel_rfl
 simp[fB,this,h]
theorem aFA:sO Tryz.prog 118=some 34:=by kernel_rfl
theorem aDY:aZ Tryz.prog 118 0=some 0:=by kernel_rfl
theorem aDZ:aZ Tryz.prog 118 1=some 33:=by kernel_rfl
theorem W4:eH Tryz.prog 118=some Ls:=by kernel_rfl
theorem aNN (st:St) (parts:List (Nat × Operand)):iW Tryz.prog st 118 parts=if (parts.all fun p=>(st.ev p.2).jD)=true then (gS (fun i=>([(0,33),(33,1)]:List (Nat × Nat))[i]?) (cA dX) (parts.map fun p=>(p.1,st.ev p.2))).map .agg else none:=iG (z:=Ls) (by kernel_rfl) Zt (fC (by kernel_rfl))
theorem aT0 (cs:List AV) (o:Nat) (h:35≤cs.length-o):fB Tryz.prog 63 cs o=some (.agg (rd cs o 35)):=by
 have:fQ Tryz.prog 63=some (true,35):=by kernel_rfl
 simp[fB,this,h]
theorem aGJ:sO Tryz.prog 63=some 35:=by kernel_rfl
theorem aIn:aZ Tryz.prog 63 0=some 0:=by kernel_rfl
theorem aIo:aZ Tryz.prog 63 1=some 1:=by kernel_rfl
theorem aIp:aZ Tryz.prog 63 2=some 33:=by kernel_rfl
theorem aIq:aZ Tryz.prog 63 3=some 34:=by kernel_rfl
theorem aNO:eH Tryz.prog 63=some Qa:=by kernel_rfl
theorem aT1 (st:St) (parts:List (Nat × Operand)):iW Tryz.prog st 63 parts=if (parts.all fun p=>(st.ev p.2).jD)=true then (gS (fun i=>([(0,1),(1,32),(33,1),(34,1)]:List (Nat × Nat))[i]?) (dD cX) (parts.map fun p=>(p.1,st.ev p.2))).map .agg else none:=iG (z:=Qa) (by kernel_rfl) Zv (fC (by kernel_rfl))
theorem aT2 (cs:List AV) (o:Nat) (h:96≤cs.length-o):fB Tryz.prog 56 cs o=some (.agg (rd cs o 96)):=by
 have:fQ Tryz.prog 56=some (true,96):=by kernel_rfl
 simp[fB,this,h]
theorem aT3:sO Tryz.prog 56=some 96:=by kernel_rfl
theorem aIr:aZ Tryz.prog 56 0=some 0:=by kernel_rfl
theorem aIs:aZ Tryz.prog 56 1=some 32:=by kernel_rfl
theorem aIt:aZ Tryz.prog 56 2=some 64:=by kernel_rfl
theorem aNP:eH Tryz.prog 56=some Ij:=by kernel_rfl
theorem aNQ (a b:Command):wJ Tryz.prog 56 (eI a) (eI b)=some (decide (a=b)):=sK (l:=RK) (by kernel_rfl) (by kernel_rfl) (by kernel_rfl) (DC a b) (JT a b)
theorem aT4 (a b:Command):gL Tryz.prog .eql 56 (.agg (eI a)) (.agg (eI b))=some (.v (.bool (decide (a=b)))):=by simp only[gL,aNQ,Option.map_some]
theorem aT5 (st:St) (parts:List (Nat × Operand)):iW Tryz.prog st 56 parts=if (parts.all fun p=>(st.ev p.2).jD)=true then (gS (fun i=>([(0,32),(32,32),(64,32)]:List (Nat × Nat))[i]?) (eI Zz) (parts.map fun p=>(p.1,st.ev p.2))).map .agg else none:=iG (z:=Ij) (by kernel_rfl) Mk (fC (by kernel_rfl))
theorem aT6 (cs:List AV) (o:Nat) (h:2≤cs.length-o):fB Tryz.prog 39 cs o=some (.agg (rd cs o 2)):=by
 have:fQ Tryz.prog 39=some (true,2):=by kernel_rfl
 simp[fB,this,h]
theorem aT7:sO Tryz.prog 39=some 2:=by kernel_rfl
theorem aIu:aZ Tryz.prog 39 0=some 0:=by kernel_rfl
theorem aIv:aZ Tryz.prog 39 1=some 1:=by kernel_rfl
theorem aT8:eH Tryz.prog 39=some AD:=by kernel_rfl
theorem aT9 (st:St) (parts:List (Nat × Operand)):iW Tryz.prog st 39 parts=if (parts.all fun p=>(st.ev p.2).jD)=true then (gS (fun i=>([(0,1),(1,1)]:List (Nat × Nat))[i]?) (fD Lg) (parts.map fun p=>(p.1,st.ev p.2))).map .agg else none:=iG (z:=AD) (by kernel_rfl) AE (fC (by kernel_rfl))
theorem aUa (cs:List AV) (o:Nat) (h:66≤cs.length-o):fB Tryz.prog 43 cs o=some (.agg (rd cs o 66)):=by
 have:fQ Tryz.prog 43=some (true,66):=by kernel_rfl
 simp[fB,this,h]
theorem aUb:sO Tryz.prog 43=some 66:=by kernel_rfl
theorem aIw:aZ Tryz.prog 43 0=some 0:=by kernel_rfl
theorem aIx:aZ Tryz.prog 43 1=some 33:=by kernel_rfl
theorem aUc:eH Tryz.prog 43=some Dy:=by kernel_rfl
theorem aNR (a b:jY):wJ Tryz.prog 43 (eP a) (eP b)=some (decide (a=b)):=sK (l:=FW) (by kernel_rfl) (by kernel_rfl) (by kernel_rfl) (AF a b) (DD a b)
theorem aUd (a b:jY):gL Tryz.prog .neq 43 (.agg (eP a)) (.agg (eP b))=some (.v (.bool (!(decide (a=b))))):=by simp only[gL,aNR,Option.map_some]
theorem aUe (st:St) (parts:List (Nat × Operand)):iW Tryz.prog st 43 parts=if (parts.all fun p=>(st.ev p.2).jD)=true then (gS (fun i=>([(0,33),(33,33)]:List (Nat × Nat))[i]?) (eP Si) (parts.map fun p=>(p.1,st.ev p.2))).map .agg else none:=iG (z:=Dy) (by kernel_rfl) Il (fC (by kernel_rfl))
theorem aUf:sO Tryz.prog 47=some 2:=by kernel_rfl
theorem aIy:aZ Tryz.prog 47 0=some 0:=by kernel_rfl
theorem aIz:aZ Tryz.prog 47 1=some 1:=by kernel_rfl
theorem aUg:eH Tryz.prog 47=some Vo:=by kernel_rfl
theorem aUh (cs:List AV) (o:Nat) (h:150≤cs.length-o):fB Tryz.prog 53 cs o=some (.agg (rd cs o 150)):=by
 have:fQ Tryz.prog 53=some (true,150):=by kernel_rfl
 simp[fB,this,h]
theorem aUi:sO Tryz.prog 53=some 150:=by kernel_rfl
theorem aIA:aZ Tryz.prog 53 0=some 0:=by kernel_rfl
theorem aIB:aZ Tryz.prog 53 1=some 45:=by kernel_rfl
theorem aIC:aZ Tryz.prog 53 2=some 47:=by kernel_rfl
theorem aID:aZ Tryz.prog 53 3=some 113:=by kernel_rfl
theorem aIE:aZ Tryz.prog 53 4=some 115:=by kernel_rfl
theorem aIF:aZ Tryz.prog 53 5=some 116:=by kernel_rfl
theorem aIG:aZ Tryz.prog 53 6=some 117:=by kernel_rfl
theorem aIH:aZ Tryz.prog 53 7=some 149:=by kernel_rfl
theorem aUj:eH Tryz.prog 53=some AI:=by kernel_rfl
theorem aUk (st:St) (parts:List (Nat × Operand)):iW Tryz.prog st 53 parts=if (parts.all fun p=>(st.ev p.2).jD)=true then (gS (fun i=>([(0,45),(45,2),(47,66),(113,2),(115,1),(116,1),(117,32),(149,1)]:List (Nat × Nat))[i]?) (aA fZ) (parts.map fun p=>(p.1,st.ev p.2))).map .agg else none:=iG (z:=AI) (by kernel_rfl) AJ (fC (by kernel_rfl))
theorem aUl (cs:List AV) (o:Nat) (h:252≤cs.length-o):fB Tryz.prog 58 cs o=some (.agg (rd cs o 252)):=by
 have:fQ Tryz.prog 58=some (true,252):=by kernel_rfl
 simp[fB,this,h]
theorem aUm:sO Tryz.prog 58=some 252:=by kernel_rfl
theorem aII:aZ Tryz.prog 58 0=some 0:=by kernel_rfl
theorem aIJ:aZ Tryz.prog 58 1=some 150:=by kernel_rfl
theorem aIK:aZ Tryz.prog 58 2=some 151:=by kernel_rfl
theorem aIL:aZ Tryz.prog 58 3=some 152:=by kernel_rfl
theorem aIM:aZ Tryz.prog 58 4=some 153:=by kernel_rfl
theorem aIN:aZ Tryz.prog 58 5=some 154:=by kernel_rfl
theorem aIO:aZ Tryz.prog 58 6=some 250:=by kernel_rfl
theorem aIP:aZ Tryz.prog 58 7=some 251:=by kernel_rfl
theorem aUn:eH Tryz.prog 58=some JZ:=by kernel_rfl
theorem aUo (st:St) (parts:List (Nat × Operand)):iW Tryz.prog st 58 parts=if (parts.all fun p=>(st.ev p.2).jD)=true then (gS (fun i=>([(0,150),(150,1),(151,1),(152,1),(153,1),(154,96),(250,1),(251,1)]:List (Nat × Nat))[i]?) (aP lW) (parts.map fun p=>(p.1,st.ev p.2))).map .agg else none:=iG (z:=JZ) (by kernel_rfl) RM (fC (by kernel_rfl))
theorem aNS (cs:List AV) (o:Nat) (h:446≤cs.length-o):fB Tryz.prog 190 cs o=some (.agg (rd cs o 446)):=by
 have:fQ Tryz.prog 190=some (true,446):=by kernel_rfl
 simp[fB,this,h]
theorem aNT:sO Tryz.prog 190=some 446:=by kernel_rfl
theorem aD0:aZ Tryz.prog 190 0=some 0:=by kernel_rfl
theorem aD1:aZ Tryz.prog 190 1=some 1:=by kernel_rfl
theorem aD2:aZ Tryz.prog 190 2=some 239:=by kernel_rfl
theorem aD3:aZ Tryz.prog 190 3=some 306:=by kernel_rfl
theorem aD4:aZ Tryz.prog 190 4=some 376:=by kernel_rfl
theorem aD5:aZ Tryz.prog 190 5=some 410:=by kernel_rfl
theorem aD6:aZ Tryz.prog 190 6=some 444:=by kernel_rfl
theorem aD7:aZ Tryz.prog 190 7=some 445:=by kernel_rfl
theorem aFM:eH Tryz.prog 190=some aDO:=by kernel_rfl
theorem aNU (st:St) (parts:List (Nat × Operand)):iW Tryz.prog st 190 parts=if (parts.all fun p=>(st.ev p.2).jD)=true then (gS (fun i=>([(0,1),(1,238),(239,67),(306,70),(376,34),(410,34),(444,1),(445,1)]:List (Nat × Nat))[i]?) (kZ zP) (parts.map fun p=>(p.1,st.ev p.2))).map .agg else none:=iG (z:=aDO) (by kernel_rfl) aA2 (fC (by kernel_rfl))
theorem aIQ (cs:List AV) (h:150≤cs.length):Bv Tryz.prog 58 0 (.agg cs)=some (.agg (rd cs 0 150)):=WK (by kernel_rfl) h
theorem aIR (cs:List AV):Bv Tryz.prog 41 0 (.agg cs)=cs[0]?:=WL (k:=1) (by kernel_rfl)
theorem Ky:dS Tryz.prog 22=some (3,1,8):=by kernel_rfl
theorem aD8:jJ Tryz.prog 22=none:=by kernel_rfl
theorem aUp (cs:List AV) (o:Nat):fB Tryz.prog 22 cs o=cs[o]?:=by
 have:fQ Tryz.prog 22=some (false,1):=by kernel_rfl
 simp only[fB,this]
theorem aUq:sO Tryz.prog 22=some 1:=by kernel_rfl
theorem aUr:eH Tryz.prog 22=some [.slice none 0 0]:=by kernel_rfl
theorem aUs (n:Nat) (cs:List AV) (h:cs≠[]):gL Tryz.prog .eql 22 (.sl n cs) (.v (.slice none 0 0))=some (.v (.bool false)):=by
 have:Tryz.prog.underlying 22=some (.slice 3):=by kernel_rfl
 cases cs with
 | nil=>exact absurd rfl h
 | cons c cs=>simp[gL,vE,this]
theorem aUt:gL Tryz.prog .eql 22 (.v (.slice none 0 0)) (.v (.slice none 0 0))=some (.v (.bool true)):=by
 have:Tryz.prog.underlying 22=some (.slice 3):=by kernel_rfl
 simp[gL,vE,this]
theorem XY:dS Tryz.prog 34=some (23,1,8):=by kernel_rfl
theorem aIS:jJ Tryz.prog 34=none:=by kernel_rfl
theorem aUu (cs:List AV) (o:Nat):fB Tryz.prog 34 cs o=cs[o]?:=by
 have:fQ Tryz.prog 34=some (false,1):=by kernel_rfl
 simp only[fB,this]
theorem aUv:sO Tryz.prog 34=some 1:=by kernel_rfl
theorem aUw:eH Tryz.prog 34=some [.slice none 0 0]:=by kernel_rfl
theorem aUx (n:Nat) (cs:List AV) (h:cs≠[]):gL Tryz.prog .eql 34 (.sl n cs) (.v (.slice none 0 0))=some (.v (.bool false)):=by
 have:Tryz.prog.underlying 34=some (.slice 23):=by kernel_rfl
 cases cs with
 | nil=>exact absurd rfl h
 | cons c cs=>simp[gL,vE,this]
theorem aUy:gL Tryz.prog .eql 34 (.v (.slice none 0 0)) (.v (.slice none 0 0))=some (.v (.bool true)):=by
 have:Tryz.prog.underlying 34=some (.slice 23):=by kernel_rfl
 simp[gL,vE,this]
theorem I8:dS Tryz.prog 37=some (100,34,48):=by kernel_rfl
theorem aIT:jJ Tryz.prog 37=none:=by kernel_rfl
theorem aUz (cs:List AV) (o:Nat):fB Tryz.prog 37 cs o=cs[o]?:=by
 have:fQ Tryz.prog 37=some (false,1):=by kernel_rfl
 simp only[fB,this]
theorem aUA:sO Tryz.prog 37=some 1:=by kernel_rfl
theorem aUB:eH Tryz.prog 37=some [.slice none 0 0]:=by kernel_rfl
theorem aUC (n:Nat) (cs:List AV) (h:cs≠[]):gL Tryz.prog .eql 37 (.sl n cs) (.v (.slice none 0 0))=some (.v (.bool false)):=by
 have:Tryz.prog.underlying 37=some (.slice 100):=by kernel_rfl
 cases cs with
 | nil=>exact absurd rfl h
 | cons c cs=>simp[gL,vE,this]
theorem aUD:gL Tryz.prog .eql 37 (.v (.slice none 0 0)) (.v (.slice none 0 0))=some (.v (.bool true)):=by
 have:Tryz.prog.underlying 37=some (.slice 100):=by kernel_rfl
 simp[gL,vE,this]
theorem aA3:dS Tryz.prog 44=some (87,67,104):=by kernel_rfl
theorem aNV:jJ Tryz.prog 44=none:=by kernel_rfl
theorem aUE (cs:List AV) (o:Nat):fB Tryz.prog 44 cs o=cs[o]?:=by
 have:fQ Tryz.prog 44=some (false,1):=by kernel_rfl
 simp only[fB,this]
theorem aUF:sO Tryz.prog 44=some 1:=by kernel_rfl
theorem aUG:eH Tryz.prog 44=some [.slice none 0 0]:=by kernel_rfl
theorem nK:dS Tryz.prog 45=some (74,238,336):=by kernel_rfl
theorem aIU:jJ Tryz.prog 45=none:=by kernel_rfl
theorem aUH (cs:List AV) (o:Nat):fB Tryz.prog 45 cs o=cs[o]?:=by
 have:fQ Tryz.prog 45=some (false,1):=by kernel_rfl
 simp only[fB,this]
theorem aUI:sO Tryz.prog 45=some 1:=by kernel_rfl
theorem aUJ:eH Tryz.prog 45=some [.slice none 0 0]:=by kernel_rfl
theorem aUK (n:Nat) (cs:List AV) (h:cs≠[]):gL Tryz.prog .eql 45 (.sl n cs) (.v (.slice none 0 0))=some (.v (.bool false)):=by
 have:Tryz.prog.underlying 45=some (.slice 74):=by kernel_rfl
 cases cs with
 | nil=>exact absurd rfl h
 | cons c cs=>simp[gL,vE,this]
theorem aUL:gL Tryz.prog .eql 45 (.v (.slice none 0 0)) (.v (.slice none 0 0))=some (.v (.bool true)):=by
 have:Tryz.prog.underlying 45=some (.slice 74):=by kernel_rfl
 simp[gL,vE,this]
theorem RP:dS Tryz.prog 48=some (76,240,352):=by kernel_rfl
theorem aIV:jJ Tryz.prog 48=none:=by kernel_rfl
theorem aUM (cs:List AV) (o:Nat):fB Tryz.prog 48 cs o=cs[o]?:=by
 have:fQ Tryz.prog 48=some (false,1):=by kernel_rfl
 simp only[fB,this]
theorem aUN:sO Tryz.prog 48=some 1:=by kernel_rfl
theorem aUO:eH Tryz.prog 48=some [.slice none 0 0]:=by kernel_rfl
theorem aUP (n:Nat) (cs:List AV) (h:cs≠[]):gL Tryz.prog .eql 48 (.sl n cs) (.v (.slice none 0 0))=some (.v (.bool false)):=by
 have:Tryz.prog.underlying 48=some (.slice 76):=by kernel_rfl
 cases cs with
 | nil=>exact absurd rfl h
 | cons c cs=>simp[gL,vE,this]
theorem Rc:dS Tryz.prog 51=some (118,34,64):=by kernel_rfl
theorem aIW:jJ Tryz.prog 51=none:=by kernel_rfl
theorem aUQ (cs:List AV) (o:Nat):fB Tryz.prog 51 cs o=cs[o]?:=by
 have:fQ Tryz.prog 51=some (false,1):=by kernel_rfl
 simp only[fB,this]
theorem aUR:sO Tryz.prog 51=some 1:=by kernel_rfl
theorem aUS:eH Tryz.prog 51=some [.slice none 0 0]:=by kernel_rfl
theorem Qz:dS Tryz.prog 54=some (63,35,56):=by kernel_rfl
theorem aIX:jJ Tryz.prog 54=none:=by kernel_rfl
theorem aUT (cs:List AV) (o:Nat):fB Tryz.prog 54 cs o=cs[o]?:=by
 have:fQ Tryz.prog 54=some (false,1):=by kernel_rfl
 simp only[fB,this]
theorem aUU:sO Tryz.prog 54=some 1:=by kernel_rfl
theorem aUV:eH Tryz.prog 54=some [.slice none 0 0]:=by kernel_rfl
theorem aD9:dS Tryz.prog 70=some (27,32,32):=by kernel_rfl
theorem aNW:jJ Tryz.prog 70=none:=by kernel_rfl
theorem aUW:sO Tryz.prog 70=some 1:=by kernel_rfl
theorem aUX:eH Tryz.prog 70=some [.slice none 0 0]:=by kernel_rfl
theorem MB:dS Tryz.prog 109=some (41,33,40):=by kernel_rfl
theorem aA4:jJ Tryz.prog 109=none:=by kernel_rfl
theorem aNX:sO Tryz.prog 109=some 1:=by kernel_rfl
theorem aNY:eH Tryz.prog 109=some [.slice none 0 0]:=by kernel_rfl
theorem r9:dS Tryz.prog 124=some (190,446,720):=by kernel_rfl
theorem aNZ:jJ Tryz.prog 124=none:=by kernel_rfl
theorem aN0:sO Tryz.prog 124=some 1:=by kernel_rfl
theorem aN1:eH Tryz.prog 124=some [.slice none 0 0]:=by kernel_rfl
theorem aFN:dS Tryz.prog 181=some (56,96,96):=by kernel_rfl
theorem aN2:jJ Tryz.prog 181=none:=by kernel_rfl
theorem aN3:sO Tryz.prog 181=some 1:=by kernel_rfl
theorem aN4:eH Tryz.prog 181=some [.slice none 0 0]:=by kernel_rfl
theorem u7:dS Tryz.prog 236=some (5,1,1):=by kernel_rfl
theorem aN5:jJ Tryz.prog 236=none:=by kernel_rfl
theorem aN6:sO Tryz.prog 236=some 1:=by kernel_rfl
theorem aN7:eH Tryz.prog 236=some [.slice none 0 0]:=by kernel_rfl
theorem RQ:dS Tryz.prog 262=some (4,1,1):=by kernel_rfl
theorem aFO:jJ Tryz.prog 262=none:=by kernel_rfl
theorem aN8:sO Tryz.prog 262=some 1:=by kernel_rfl
theorem aN9:eH Tryz.prog 262=some [.slice none 0 0]:=by kernel_rfl
theorem aUY {call:Nat→List AV→Option AV} {ops:Array Oper} {st:St} {T:Nat} {pos:String} {eQ:Array Edge} (d:Nat):cH Tryz.prog call ops ⟨some d,.buildSlice 22 0 #[],T,pos,eQ,none⟩ st=some ((st.new d (.row 3 1 0 [])).put (some d) (.own d (st.aQ d))):=Zn Ky ze3 d
theorem aUZ (st:St) (x:AV):dH Tryz.prog st 34 (.v (.slice none 0 0)) x=yF 23 1 8 (aW st x):=uO XY x
theorem aU0 (st:St) (s g:Nat) (x:AV):dH Tryz.prog st 34 (.own s g) x=xV 23 1 8 (st.heap s g) s g (aW st x):=sQ XY s g x
theorem aU1 (st:St) (s g:Nat) (kk:IntKind) (i:Int):bH Tryz.prog st 34 (.own s g) (.v (.int kk i))=KU 23 1 (st.heap s g) s g i:=Jl aIS XY s g kk i
theorem aU2 {call:Nat→List AV→Option AV} {ops:Array Oper} {st:St} {T:Nat} {pos:String} {eQ:Array Edge} (d:Nat):cH Tryz.prog call ops ⟨some d,.buildSlice 34 0 #[],T,pos,eQ,none⟩ st=some ((st.new d (.row 23 1 0 [])).put (some d) (.own d (st.aQ d))):=Zn XY aHG d
theorem aU3 {call:Nat→List AV→Option AV} {ops:Array Oper} {st:St} {T:Nat} {pos:String} {eQ:Array Edge} (d:Nat) (x:Operand):cH Tryz.prog call ops ⟨some d,.buildSlice 34 1 #[(0,x)],T,pos,eQ,none⟩ st=elV (st.ev x) (fun y=>some ((st.new d (.row 23 1 1 [.v y])).put (some d) (.own d (st.aQ d)))) (cH Tryz.prog call ops ⟨some d,.buildSlice 34 1 #[(0,x)],T,pos,eQ,none⟩ st):=JD XY aHG d x
theorem aU4 (st:St) (x:AV):dH Tryz.prog st 37 (.v (.slice none 0 0)) x=yF 100 34 48 (aW st x):=uO I8 x
theorem aU5 (st:St) (s g:Nat) (x:AV):dH Tryz.prog st 37 (.own s g) x=xV 100 34 48 (st.heap s g) s g (aW st x):=sQ I8 s g x
theorem aU6 (st:St) (s g:Nat) (kk:IntKind) (i:Int):bH Tryz.prog st 37 (.own s g) (.v (.int kk i))=KU 100 34 (st.heap s g) s g i:=Jl aIT I8 s g kk i
theorem aU7 {call:Nat→List AV→Option AV} {ops:Array Oper} {st:St} {T:Nat} {pos:String} {eQ:Array Edge} (d:Nat):cH Tryz.prog call ops ⟨some d,.buildSlice 37 0 #[],T,pos,eQ,none⟩ st=some ((st.new d (.row 100 34 0 [])).put (some d) (.own d (st.aQ d))):=Zn I8 aFK d
theorem aU8 (st:St) (x:AV):dH Tryz.prog st 44 (.v (.slice none 0 0)) x=yF 87 67 104 (aW st x):=uO aA3 x
theorem aU9 (st:St) (s g:Nat) (x:AV):dH Tryz.prog st 44 (.own s g) x=xV 87 67 104 (st.heap s g) s g (aW st x):=sQ aA3 s g x
theorem aVa {call:Nat→List AV→Option AV} {ops:Array Oper} {st:St} {T:Nat} {pos:String} {eQ:Array Edge} (d:Nat) (x:Operand):cH Tryz.prog call ops ⟨some d,.buildSlice 44 1 #[(0,x)],T,pos,eQ,none⟩ st=H8 67 (st.ev x) (fun cs=>some ((st.new d (.row 87 67 1 cs)).put (some d) (.own d (st.aQ d)))) (cH Tryz.prog call ops ⟨some d,.buildSlice 44 1 #[(0,x)],T,pos,eQ,none⟩ st):=Bq aA3 aND (by rfl) (by decide) d x
theorem aVb (st:St) (x:AV):dH Tryz.prog st 45 (.v (.slice none 0 0)) x=yF 74 238 336 (aW st x):=uO nK x
theorem aVc (st:St) (s g:Nat) (x:AV):dH Tryz.prog st 45 (.own s g) x=xV 74 238 336 (st.heap s g) s g (aW st x):=sQ nK s g x
theorem aVd (st:St) (s g:Nat) (kk:IntKind) (i:Int):bH Tryz.prog st 45 (.own s g) (.v (.int kk i))=KU 74 238 (st.heap s g) s g i:=Jl aIU nK s g kk i
theorem aVe {call:Nat→List AV→Option AV} {ops:Array Oper} {st:St} {T:Nat} {pos:String} {eQ:Array Edge} (d:Nat):cH Tryz.prog call ops ⟨some d,.buildSlice 45 0 #[],T,pos,eQ,none⟩ st=some ((st.new d (.row 74 238 0 [])).put (some d) (.own d (st.aQ d))):=Zn nK aCS d
theorem aVf {call:Nat→List AV→Option AV} {ops:Array Oper} {st:St} {T:Nat} {pos:String} {eQ:Array Edge} (d:Nat) (x:Operand):cH Tryz.prog call ops ⟨some d,.buildSlice 45 1 #[(0,x)],T,pos,eQ,none⟩ st=H8 238 (st.ev x) (fun cs=>some ((st.new d (.row 74 238 1 cs)).put (some d) (.own d (st.aQ d)))) (cH Tryz.prog call ops ⟨some d,.buildSlice 45 1 #[(0,x)],T,pos,eQ,none⟩ st):=Bq nK aCS (by rfl) (by decide) d x
theorem aVg {call:Nat→List AV→Option AV} {ops:Array Oper} {st:St} {T:Nat} {pos:String} {eQ:Array Edge} (d:Nat):cH Tryz.prog call ops ⟨some d,.buildSlice 48 0 #[],T,pos,eQ,none⟩ st=some ((st.new d (.row 76 240 0 [])).put (some d) (.own d (st.aQ d))):=Zn RP aH1 d
theorem aVh (st:St) (x:AV):dH Tryz.prog st 51 (.v (.slice none 0 0)) x=yF 118 34 64 (aW st x):=uO Rc x
theorem aVi (st:St) (s g:Nat) (x:AV):dH Tryz.prog st 51 (.own s g) x=xV 118 34 64 (st.heap s g) s g (aW st x):=sQ Rc s g x
theorem aVj (st:St) (s g:Nat) (kk:IntKind) (i:Int):bH Tryz.prog st 51 (.own s g) (.v (.int kk i))=KU 118 34 (st.heap s g) s g i:=Jl aIW Rc s g kk i
theorem aVk {call:Nat→List AV→Option AV} {ops:Array Oper} {st:St} {T:Nat} {pos:String} {eQ:Array Edge} (d:Nat) (x:Operand):cH Tryz.prog call ops ⟨some d,.buildSlice 51 1 #[(0,x)],T,pos,eQ,none⟩ st=H8 34 (st.ev x) (fun cs=>some ((st.new d (.row 118 34 1 cs)).put (some d) (.own d (st.aQ d)))) (cH Tryz.prog call ops ⟨some d,.buildSlice 51 1 #[(0,x)],T,pos,eQ,none⟩ st):=Bq Rc W4 (by rfl) (by decide) d x
theorem aVl (st:St) (x:AV):dH Tryz.prog st 54 (.v (.slice none 0 0)) x=yF 63 35 56 (aW st x):=uO Qz x
theorem aVm (st:St) (s g:Nat) (x:AV):dH Tryz.prog st 54 (.own s g) x=xV 63 35 56 (st.heap s g) s g (aW st x):=sQ Qz s g x
theorem aVn (st:St) (s g:Nat) (kk:IntKind) (i:Int):bH Tryz.prog st 54 (.own s g) (.v (.int kk i))=KU 63 35 (st.heap s g) s g i:=Jl aIX Qz s g kk i
theorem aVo {call:Nat→List AV→Option AV} {ops:Array Oper} {st:St} {T:Nat} {pos:String} {eQ:Array Edge} (d:Nat) (x:Operand):cH Tryz.prog call ops ⟨some d,.buildSlice 54 1 #[(0,x)],T,pos,eQ,none⟩ st=H8 35 (st.ev x) (fun cs=>some ((st.new d (.row 63 35 1 cs)).put (some d) (.own d (st.aQ d)))) (cH Tryz.prog call ops ⟨some d,.buildSlice 54 1 #[(0,x)],T,pos,eQ,none⟩ st):=Bq Qz aNO (by rfl) (by decide) d x
theorem aVp (st:St) (s g:Nat) (x:AV):dH Tryz.prog st 70 (.own s g) x=xV 27 32 32 (st.heap s g) s g (aW st x):=sQ aD9 s g x
theorem aVq {call:Nat→List AV→Option AV} {ops:Array Oper} {st:St} {T:Nat} {pos:String} {eQ:Array Edge} (d:Nat) (x:Operand):cH Tryz.prog call ops ⟨some d,.buildSlice 70 1 #[(0,x)],T,pos,eQ,none⟩ st=H8 32 (st.ev x) (fun cs=>some ((st.new d (.row 27 32 1 cs)).put (some d) (.own d (st.aQ d)))) (cH Tryz.prog call ops ⟨some d,.buildSlice 70 1 #[(0,x)],T,pos,eQ,none⟩ st):=Bq aD9 aNv (by rfl) (by decide) d x
theorem aOa (st:St) (s g:Nat) (kk:IntKind) (i:Int):bH Tryz.prog st 109 (.own s g) (.v (.int kk i))=KU 41 33 (st.heap s g) s g i:=Jl aA4 MB s g kk i
theorem aOb {call:Nat→List AV→Option AV} {ops:Array Oper} {st:St} {T:Nat} {pos:String} {eQ:Array Edge} (d:Nat) (x:Operand):cH Tryz.prog call ops ⟨some d,.buildSlice 109 1 #[(0,x)],T,pos,eQ,none⟩ st=H8 33 (st.ev x) (fun cs=>some ((st.new d (.row 41 33 1 cs)).put (some d) (.own d (st.aQ d)))) (cH Tryz.prog call ops ⟨some d,.buildSlice 109 1 #[(0,x)],T,pos,eQ,none⟩ st):=Bq MB aGe (by rfl) (by decide) d x
theorem aOc (st:St) (x:AV):dH Tryz.prog st 124 (.v (.slice none 0 0)) x=yF 190 446 720 (aW st x):=uO r9 x
theorem aOd (st:St) (s g:Nat) (x:AV):dH Tryz.prog st 124 (.own s g) x=xV 190 446 720 (st.heap s g) s g (aW st x):=sQ r9 s g x
theorem aOe {call:Nat→List AV→Option AV} {ops:Array Oper} {st:St} {T:Nat} {pos:String} {eQ:Array Edge} (d:Nat) (x:Operand):cH Tryz.prog call ops ⟨some d,.buildSlice 124 1 #[(0,x)],T,pos,eQ,none⟩ st=H8 446 (st.ev x) (fun cs=>some ((st.new d (.row 190 446 1 cs)).put (some d) (.own d (st.aQ d)))) (cH Tryz.prog call ops ⟨some d,.buildSlice 124 1 #[(0,x)],T,pos,eQ,none⟩ st):=Bq r9 aFM (by rfl) (by decide) d x
theorem aOf {call:Nat→List AV→Option AV} {ops:Array Oper} {st:St} {T:Nat} {pos:String} {eQ:Array Edge} (d:Nat) (x:Operand):cH Tryz.prog call ops ⟨some d,.buildSlice 181 1 #[(0,x)],T,pos,eQ,none⟩ st=H8 96 (st.ev x) (fun cs=>some ((st.new d (.row 56 96 1 cs)).put (some d) (.own d (st.aQ d)))) (cH Tryz.prog call ops ⟨some d,.buildSlice 181 1 #[(0,x)],T,pos,eQ,none⟩ st):=Bq aFN aNP (by rfl) (by decide) d x
theorem aOg (st:St) (x:AV):dH Tryz.prog st 236 (.v (.slice none 0 0)) x=yF 5 1 1 (aW st x):=uO u7 x
theorem aOh (st:St) (s g:Nat) (x:AV):dH Tryz.prog st 236 (.own s g) x=xV 5 1 1 (st.heap s g) s g (aW st x):=sQ u7 s g x
theorem aOi {call:Nat→List AV→Option AV} {ops:Array Oper} {st:St} {T:Nat} {pos:String} {eQ:Array Edge} (d:Nat) (x:Operand):cH Tryz.prog call ops ⟨some d,.buildSlice 236 1 #[(0,x)],T,pos,eQ,none⟩ st=elV (st.ev x) (fun y=>some ((st.new d (.row 5 1 1 [.v y])).put (some d) (.own d (st.aQ d)))) (cH Tryz.prog call ops ⟨some d,.buildSlice 236 1 #[(0,x)],T,pos,eQ,none⟩ st):=JD u7 ze5 d x
theorem aOj (st:St) (x:AV):dH Tryz.prog st 262 (.v (.slice none 0 0)) x=yF 4 1 1 (aW st x):=uO RQ x
theorem aOk (st:St) (s g:Nat) (x:AV):dH Tryz.prog st 262 (.own s g) x=xV 4 1 1 (st.heap s g) s g (aW st x):=sQ RQ s g x
theorem aOl {call:Nat→List AV→Option AV} {ops:Array Oper} {st:St} {T:Nat} {pos:String} {eQ:Array Edge} (d:Nat) (x:Operand):cH Tryz.prog call ops ⟨some d,.buildSlice 262 1 #[(0,x)],T,pos,eQ,none⟩ st=elV (st.ev x) (fun y=>some ((st.new d (.row 4 1 1 [.v y])).put (some d) (.own d (st.aQ d)))) (cH Tryz.prog call ops ⟨some d,.buildSlice 262 1 #[(0,x)],T,pos,eQ,none⟩ st):=JD RQ ze4 d x
theorem aSK:bL Tryz.f15=true:=by kernel_rfl
theorem aSJ:bL Tryz.f17=true:=by kernel_rfl
theorem aRW:bL Tryz.f24=true:=by kernel_rfl
theorem aRm:sR Tryz.f25=true:=by kernel_rfl
theorem aRK:sR Tryz.f27=true:=by kernel_rfl
theorem aO7:bL Tryz.f30=true:=by kernel_rfl
theorem aRh:bL Tryz.f32=true:=by kernel_rfl
theorem aPr:bL Tryz.f34=true:=by kernel_rfl
theorem aRg:bL Tryz.f36=true:=by kernel_rfl
theorem aRl:bL Tryz.f37=true:=by kernel_rfl
theorem aP6:bL Tryz.f39=true:=by kernel_rfl
theorem aP3:bL Tryz.f40=true:=by kernel_rfl
theorem aMW:sR Tryz.f42=true:=by kernel_rfl
theorem aQi:bL Tryz.f44=true:=by kernel_rfl
theorem aQ3:bL Tryz.f45=true:=by kernel_rfl
theorem aVr:bL Tryz.f46=true:=by kernel_rfl
theorem aO6:bL Tryz.f47=true:=by kernel_rfl
theorem aJP:bL Tryz.f49=true:=by kernel_rfl
theorem aRn:sR Tryz.f50=true:=by kernel_rfl
theorem aP9:bL Tryz.f52=true:=by kernel_rfl
theorem aP5:bL Tryz.f54=true:=by kernel_rfl
theorem aSF:sR Tryz.f56=true:=by kernel_rfl
theorem aSH:bL Tryz.f57=true:=by kernel_rfl
theorem aSt:sR Tryz.f58=true:=by kernel_rfl
theorem aQb:sR Tryz.f59=true:=by kernel_rfl
theorem aSz:sR Tryz.f60=true:=by kernel_rfl
theorem aQc:sR Tryz.f61=true:=by kernel_rfl
theorem aSC:bL Tryz.f62=true:=by kernel_rfl
theorem aPF:bL Tryz.f64=true:=by kernel_rfl
theorem aPY:bL Tryz.f65=true:=by kernel_rfl
theorem aQa:bL Tryz.f67=true:=by kernel_rfl
theorem aP7:bL Tryz.f69=true:=by kernel_rfl
theorem aRA:bL Tryz.f72=true:=by kernel_rfl
theorem aRz:sR Tryz.f74=true:=by kernel_rfl
theorem aRV:sR Tryz.f75=true:=by kernel_rfl
theorem aJR:bL Tryz.f76=true:=by kernel_rfl
theorem aRd:bL Tryz.f85=true:=by kernel_rfl
theorem aRe:bL Tryz.f86=true:=by kernel_rfl
theorem aVs:bL Tryz.f87=true:=by kernel_rfl
theorem aPz:bL Tryz.f89=true:=by kernel_rfl
theorem aRf:bL Tryz.f91=true:=by kernel_rfl
theorem aQ6:bL Tryz.f92=true:=by kernel_rfl
theorem aQn:bL Tryz.f94=true:=by kernel_rfl
theorem aLb:bL Tryz.f95=true:=by kernel_rfl
theorem aPR:bL Tryz.f97=true:=by kernel_rfl
theorem aPS:bL Tryz.f98=true:=by kernel_rfl
theorem aPU:bL Tryz.f99=true:=by kernel_rfl
theorem aJ2:bL Tryz.f100=true:=by kernel_rfl
theorem aFn:bL Tryz.f101=true:=by kernel_rfl
theorem aLM:bL Tryz.f102=true:=by kernel_rfl
theorem aFa:bL Tryz.f103=true:=by kernel_rfl
theorem aMR:bL Tryz.f104=true:=by kernel_rfl
theorem aE9:bL Tryz.f105=true:=by kernel_rfl
theorem aJ7:bL Tryz.f106=true:=by kernel_rfl
theorem aFw:bL Tryz.f107=true:=by kernel_rfl
theorem aFb:bL Tryz.f108=true:=by kernel_rfl
theorem aMM:bL Tryz.f109=true:=by kernel_rfl
theorem aK3:bL Tryz.f110=true:=by kernel_rfl
theorem aMg:bL Tryz.f111=true:=by kernel_rfl
theorem aKL:bL Tryz.f114=true:=by kernel_rfl
theorem aK0:bL Tryz.f117=true:=by kernel_rfl
theorem aM5:bL Tryz.f118=true:=by kernel_rfl
theorem aM4:bL Tryz.f119=true:=by kernel_rfl
theorem aMZ:bL Tryz.f120=true:=by kernel_rfl
theorem aJ5:bL Tryz.f121=true:=by kernel_rfl
theorem aKA:bL Tryz.f122=true:=by kernel_rfl
theorem aM1:bL Tryz.f124=true:=by kernel_rfl
theorem aJ9:bL Tryz.f125=true:=by kernel_rfl
theorem aM3:bL Tryz.f127=true:=by kernel_rfl
theorem aKC:bL Tryz.f128=true:=by kernel_rfl
theorem aEW:bL Tryz.f130=true:=by kernel_rfl
theorem aKP:bL Tryz.f131=true:=by kernel_rfl
theorem aKy:bL Tryz.f137=true:=by kernel_rfl
theorem aMk:bL Tryz.f143=true:=by kernel_rfl
theorem aMB:bL Tryz.f144=true:=by kernel_rfl
theorem N3:bL Tryz.f145=true:=by kernel_rfl
theorem aMs:bL Tryz.f146=true:=by kernel_rfl
theorem aMy:bL Tryz.f147=true:=by kernel_rfl
theorem aJU:bL Tryz.f149=true:=by kernel_rfl
theorem aKd:bL Tryz.f150=true:=by kernel_rfl
theorem aKb:bL Tryz.f151=true:=by kernel_rfl
theorem aK9:bL Tryz.f152=true:=by kernel_rfl
theorem aLa:bL Tryz.f153=true:=by kernel_rfl
theorem aJ1:bL Tryz.f154=true:=by kernel_rfl
theorem aJY:bL Tryz.f155=true:=by kernel_rfl
theorem aJZ:bL Tryz.f156=true:=by kernel_rfl
theorem aJT:bL Tryz.f157=true:=by kernel_rfl
theorem aKV:bL Tryz.f158=true:=by kernel_rfl
theorem aFc:bL Tryz.f159=true:=by kernel_rfl
theorem aFs:bL Tryz.f160=true:=by kernel_rfl
theorem aML:bL Tryz.f161=true:=by kernel_rfl
theorem aMI:bL Tryz.f162=true:=by kernel_rfl
theorem aMF:bL Tryz.f163=true:=by kernel_rfl
theorem aFv:bL Tryz.f164=true:=by kernel_rfl
theorem aKl:bL Tryz.f165=true:=by kernel_rfl
theorem aMK:bL Tryz.f166=true:=by kernel_rfl
theorem aKK:bL Tryz.f169=true:=by kernel_rfl
theorem aKI:bL Tryz.f170=true:=by kernel_rfl
theorem aMY:bL Tryz.f171=true:=by kernel_rfl
theorem aKY:bL Tryz.f172=true:=by kernel_rfl
theorem aMX:bL Tryz.f173=true:=by kernel_rfl
theorem aEU:bL Tryz.f175=true:=by kernel_rfl
theorem aKF:bL Tryz.f176=true:=by kernel_rfl
theorem aLI:sR Tryz.f181=true:=by kernel_rfl
theorem aMi:bL Tryz.f182=true:=by kernel_rfl
theorem aMj:bL Tryz.f183=true:=by kernel_rfl
theorem aMe:sR Tryz.f184=true:=by kernel_rfl
theorem aMx:bL Tryz.f185=true:=by kernel_rfl
theorem aOm:bL Tryz.f186=true:=by kernel_rfl
theorem aJV:bL Tryz.f188=true:=by kernel_rfl
theorem aJX:bL Tryz.f189=true:=by kernel_rfl
theorem aFt:bL Tryz.f190=true:=by kernel_rfl
theorem aFu:bL Tryz.f191=true:=by kernel_rfl
theorem aKk:bL Tryz.f192=true:=by kernel_rfl
theorem aMJ:bL Tryz.f193=true:=by kernel_rfl
theorem aMG:bL Tryz.f194=true:=by kernel_rfl
theorem aKX:sR Tryz.f195=true:=by kernel_rfl
theorem aJ0:bL Tryz.f196=true:=by kernel_rfl
theorem aLG:bL Tryz.f199=true:=by kernel_rfl
theorem aMd:bL Tryz.f200=true:=by kernel_rfl
theorem aLX:bL Tryz.f201=true:=by kernel_rfl
theorem aMp:sR Tryz.f202=true:=by kernel_rfl
theorem aMw:bL Tryz.f203=true:=by kernel_rfl
theorem aLB:bL Tryz.f204=true:=by kernel_rfl
theorem aLA:bL Tryz.f205=true:=by kernel_rfl
theorem aFp:bL Tryz.f206=true:=by kernel_rfl
theorem aLF:bL Tryz.f208=true:=by kernel_rfl
theorem aLf:bL Tryz.f209=true:=by kernel_rfl
theorem aL7:sR Tryz.f210=true:=by kernel_rfl
theorem aL9:sR Tryz.f211=true:=by kernel_rfl
theorem aMa:bL Tryz.f212=true:=by kernel_rfl
theorem aMb:sR Tryz.f213=true:=by kernel_rfl
theorem aMc:sR Tryz.f214=true:=by kernel_rfl
theorem aE8:bL Tryz.f215=true:=by kernel_rfl
theorem aLW:bL Tryz.f216=true:=by kernel_rfl
theorem aK6:bL Tryz.f217=true:=by kernel_rfl
theorem aK2:bL Tryz.f218=true:=by kernel_rfl
theorem aLz:bL Tryz.f219=true:=by kernel_rfl
theorem aLy:bL Tryz.f220=true:=by kernel_rfl
theorem aLw:bL Tryz.f221=true:=by kernel_rfl
theorem aKv:bL Tryz.f222=true:=by kernel_rfl
theorem aLo:bL Tryz.f223=true:=by kernel_rfl
theorem aLt:bL Tryz.f224=true:=by kernel_rfl
theorem aLD:bL Tryz.f225=true:=by kernel_rfl
theorem aLQ:bL Tryz.f226=true:=by kernel_rfl
theorem aL4:bL Tryz.f227=true:=by kernel_rfl
theorem aLR:sR Tryz.f228=true:=by kernel_rfl
theorem aL5:bL Tryz.f229=true:=by kernel_rfl
theorem aL6:bL Tryz.f230=true:=by kernel_rfl
theorem aFe:sR Tryz.f231=true:=by kernel_rfl
theorem aLV:bL Tryz.f232=true:=by kernel_rfl
theorem aKM:bL Tryz.f233=true:=by kernel_rfl
theorem aLe:bL Tryz.f234=true:=by kernel_rfl
theorem aLh:sR Tryz.f235=true:=by kernel_rfl
theorem aKq:bL Tryz.f236=true:=by kernel_rfl
theorem aKu:bL Tryz.f237=true:=by kernel_rfl
theorem aKr:bL Tryz.f238=true:=by kernel_rfl
theorem aLd:bL Tryz.f239=true:=by kernel_rfl
theorem aLg:bL Tryz.f240=true:=by kernel_rfl
theorem aLm:bL Tryz.f241=true:=by kernel_rfl
theorem aLn:bL Tryz.f242=true:=by kernel_rfl
theorem aLj:bL Tryz.f243=true:=by kernel_rfl
theorem aE2:bL Tryz.f244=true:=by kernel_rfl
theorem aKg:bL Tryz.f245=true:=by kernel_rfl
theorem aL2:bL Tryz.f246=true:=by kernel_rfl
theorem aKp:bL Tryz.f247=true:=by kernel_rfl
theorem aLi:bL Tryz.f248=true:=by kernel_rfl
theorem aLr:bL Tryz.f249=true:=by kernel_rfl
theorem aLc:bL Tryz.f250=true:=by kernel_rfl
theorem aKx:bL Tryz.f251=true:=by kernel_rfl
theorem aLp:bL Tryz.f252=true:=by kernel_rfl
end Go.Ab.Tryz
