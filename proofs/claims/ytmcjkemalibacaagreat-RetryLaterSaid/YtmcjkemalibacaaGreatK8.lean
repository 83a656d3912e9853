/-
  Part 8 of the proof: an evaluator of programs, its soundness, and what functions of this program compute.
-/
import Derived.Test.YtmcjkemalibacaaGreatK7
import Derived.Test.YtmcjkemalibacaaGreatProg
import Derived.KernelRfl
set_option linter.all false
set_option maxRecDepth 20000
set_option maxHeartbeats 40000000
namespace Go.Ab.Tryz
open Classical Go.Proofs Go.Ab
theorem mixed:Tryz.prog.follows .mixedOrders=true:=by kernel_rfl
theorem ld3 (cs:List AV) (o:Nat):fC Tryz.prog 3 cs o=cs[o]?:=by
 have:fR Tryz.prog 3=some (false,1):=by kernel_rfl
 simp only[fC,this]
theorem ik3:intKind Tryz.prog 3=some .i64:=by kernel_rfl
theorem lk3:tT Tryz.prog 3=some 1:=by kernel_rfl
theorem ze3:dU Tryz.prog 3=some [.int .i64 0]:=by kernel_rfl
theorem aVF (cs:List AV) (o:Nat):fC Tryz.prog 23 cs o=cs[o]?:=by
 have:fR Tryz.prog 23=some (false,1):=by kernel_rfl
 simp only[fC,this]
theorem aVG:intKind Tryz.prog 23=some .u64:=by kernel_rfl
theorem XQ:tT Tryz.prog 23=some 1:=by kernel_rfl
theorem aJG:dU Tryz.prog 23=some [.int .u64 0]:=by kernel_rfl
theorem aVH:intKind Tryz.prog 61=some .u64:=by kernel_rfl
theorem aVI:tT Tryz.prog 61=some 1:=by kernel_rfl
theorem aVJ:dU Tryz.prog 61=some [.int .u64 0]:=by kernel_rfl
theorem ld5 (cs:List AV) (o:Nat):fC Tryz.prog 5 cs o=cs[o]?:=by
 have:fR Tryz.prog 5=some (false,1):=by kernel_rfl
 simp only[fC,this]
theorem ik5:intKind Tryz.prog 5=some .u8:=by kernel_rfl
theorem lk5:tT Tryz.prog 5=some 1:=by kernel_rfl
theorem ze5:dU Tryz.prog 5=some [.int .u8 0]:=by kernel_rfl
theorem ik2:intKind Tryz.prog 2=some .i64:=by kernel_rfl
theorem lk2:tT Tryz.prog 2=some 1:=by kernel_rfl
theorem ze2:dU Tryz.prog 2=some [.int .i64 0]:=by kernel_rfl
theorem aVK:intKind Tryz.prog 64=some .i64:=by kernel_rfl
theorem aVL:tT Tryz.prog 64=some 1:=by kernel_rfl
theorem aVM:dU Tryz.prog 64=some [.int .i64 0]:=by kernel_rfl
theorem ld4 (cs:List AV) (o:Nat):fC Tryz.prog 4 cs o=cs[o]?:=by
 have:fR Tryz.prog 4=some (false,1):=by kernel_rfl
 simp only[fC,this]
theorem lk4:tT Tryz.prog 4=some 1:=by kernel_rfl
theorem ze4:dU Tryz.prog 4=some [.bool false]:=by kernel_rfl
theorem be4 (a b:Bool):fP Tryz.prog .eql 4 (.v (.bool a)) (.v (.bool b))=some (.v (.bool (a == b))):=by
 have:Tryz.prog.underlying 4=some .bool:=by kernel_rfl
 simp only[fP,this]
theorem aVN (cs:List AV) (o:Nat) (h:32<=cs.length-o):fC Tryz.prog 27 cs o=some (.agg (rd cs o 32)):=by
 have:fR Tryz.prog 27=some (true,32):=by kernel_rfl
 simp[fC,this,h]
theorem aM5:tT Tryz.prog 27=some 32:=by kernel_rfl
theorem aPP:dU Tryz.prog 27=some tW:=by kernel_rfl
theorem aJH (a b:cJ):tR Tryz.prog 27 (aX a) (aX b)=some (decide (a=b)):=rP (l:=Hf) (by kernel_rfl) (by kernel_rfl) (by kernel_rfl) (mN a b) (oS a b)
theorem aVO (a b:cJ):fP Tryz.prog .eql 27 (.agg (aX a)) (.agg (aX b))=some (.v (.bool (decide (a=b)))):=by simp only[fP,aJH,Option.map_some]
theorem aVP (a b:cJ):fP Tryz.prog .neq 27 (.agg (aX a)) (.agg (aX b))=some (.v (.bool (!(decide (a=b))))):=by simp only[fP,aJH,Option.map_some]
theorem aH3:jI Tryz.prog 27=some (32,1):=by kernel_rfl
theorem aVQ (st:St) (parts:List (Nat × Operand)):iU Tryz.prog st 27 parts=if (parts.all fun p=>(st.ev p.2).jO)=true then (gM (fun i=>some (i * 1,1)) (aX dK) (parts.map fun p=>(p.1,st.ev p.2))).map .agg else none:=iD (z:=tW) (by kernel_rfl) jM (Wp (by kernel_rfl))
theorem aVR (cs:List AV) (o:Nat) (h:4<=cs.length-o):fC Tryz.prog 33 cs o=some (.agg (rd cs o 4)):=by
 have:fR Tryz.prog 33=some (true,4):=by kernel_rfl
 simp[fC,this,h]
theorem aVS:tT Tryz.prog 33=some 4:=by kernel_rfl
theorem aVT:dU Tryz.prog 33=some CY:=by kernel_rfl
theorem aPQ (a b:rC):tR Tryz.prog 33 (gC a) (gC b)=some (decide (a=b)):=rP (l:=G6) (by kernel_rfl) (by kernel_rfl) (by kernel_rfl) (Ou a b) (Uq a b)
theorem aVU (a b:rC):fP Tryz.prog .neq 33 (.agg (gC a)) (.agg (gC b))=some (.v (.bool (!(decide (a=b))))):=by simp only[fP,aPQ,Option.map_some]
theorem aMN:jI Tryz.prog 33=some (4,1):=by kernel_rfl
theorem aVV (st:St) (parts:List (Nat × Operand)):iU Tryz.prog st 33 parts=if (parts.all fun p=>(st.ev p.2).jO)=true then (gM (fun i=>some (i * 1,1)) (gC JI) (parts.map fun p=>(p.1,st.ev p.2))).map .agg else none:=iD (z:=CY) (by kernel_rfl) jN (Wp (by kernel_rfl))
theorem aVW (cs:List AV) (o:Nat) (h:33<=cs.length-o):fC Tryz.prog 41 cs o=some (.agg (rd cs o 33)):=by
 have:fR Tryz.prog 41=some (true,33):=by kernel_rfl
 simp[fC,this,h]
theorem aVX:tT Tryz.prog 41=some 33:=by kernel_rfl
theorem aJI:aU Tryz.prog 41 0=some 0:=by kernel_rfl
theorem aJJ:aU Tryz.prog 41 1=some 1:=by kernel_rfl
theorem aM4:dU Tryz.prog 41=some Dv:=by kernel_rfl
theorem aJK (a b:fU):tR Tryz.prog 41 (bY a) (bY b)=some (decide (a=b)):=rP (l:=Ws) (by kernel_rfl) (by kernel_rfl) (by kernel_rfl) (tP a b) (mX a b)
theorem aVY (a b:fU):fP Tryz.prog .eql 41 (.agg (bY a)) (.agg (bY b))=some (.v (.bool (decide (a=b)))):=by simp only[fP,aJK,Option.map_some]
theorem aVZ (a b:fU):fP Tryz.prog .neq 41 (.agg (bY a)) (.agg (bY b))=some (.v (.bool (!(decide (a=b))))):=by simp only[fP,aJK,Option.map_some]
theorem aV0 (st:St) (parts:List (Nat × Operand)):iU Tryz.prog st 41 parts=if (parts.all fun p=>(st.ev p.2).jO)=true then (gM (fun i=>([(0,1),(1,32)]:List (Nat × Nat))[i]?) (bY gY) (parts.map fun p=>(p.1,st.ev p.2))).map .agg else none:=iD (z:=Dv) (by kernel_rfl) Ca (eX (by kernel_rfl))
theorem aV1 (cs:List AV) (o:Nat) (h:66<=cs.length-o):fC Tryz.prog 72 cs o=some (.agg (rd cs o 66)):=by
 have:fR Tryz.prog 72=some (true,66):=by kernel_rfl
 simp[fC,this,h]
theorem aV2:tT Tryz.prog 72=some 66:=by kernel_rfl
theorem aJL:aU Tryz.prog 72 0=some 0:=by kernel_rfl
theorem aJM:aU Tryz.prog 72 1=some 33:=by kernel_rfl
theorem aV3:dU Tryz.prog 72=some Rx:=by kernel_rfl
theorem aV4 (st:St) (parts:List (Nat × Operand)):iU Tryz.prog st 72 parts=if (parts.all fun p=>(st.ev p.2).jO)=true then (gM (fun i=>([(0,33),(33,33)]:List (Nat × Nat))[i]?) (fJ Qj) (parts.map fun p=>(p.1,st.ev p.2))).map .agg else none:=iD (z:=Rx) (by kernel_rfl) Ur (eX (by kernel_rfl))
theorem aV5 (cs:List AV) (o:Nat) (h:238<=cs.length-o):fC Tryz.prog 74 cs o=some (.agg (rd cs o 238)):=by
 have:fR Tryz.prog 74=some (true,238):=by kernel_rfl
 simp[fC,this,h]
theorem YK:tT Tryz.prog 74=some 238:=by kernel_rfl
theorem aJN:aU Tryz.prog 74 0=some 0:=by kernel_rfl
theorem aJO:aU Tryz.prog 74 1=some 66:=by kernel_rfl
theorem aJP:aU Tryz.prog 74 2=some 67:=by kernel_rfl
theorem aJQ:aU Tryz.prog 74 3=some 99:=by kernel_rfl
theorem aJR:aU Tryz.prog 74 4=some 131:=by kernel_rfl
theorem aJS:aU Tryz.prog 74 5=some 163:=by kernel_rfl
theorem aJT:aU Tryz.prog 74 6=some 167:=by kernel_rfl
theorem aJU:aU Tryz.prog 74 7=some 171:=by kernel_rfl
theorem aJV:aU Tryz.prog 74 8=some 204:=by kernel_rfl
theorem aJW:aU Tryz.prog 74 9=some 237:=by kernel_rfl
theorem aFB:dU Tryz.prog 74=some Uu:=by kernel_rfl
theorem aJX (a b:Block):tR Tryz.prog 74 (aT a) (aT b)=some (decide (a=b)):=rP (l:=o8) (by kernel_rfl) (by kernel_rfl) (by kernel_rfl) (Wt a b) (DB a b)
theorem aV6 (a b:Block):fP Tryz.prog .eql 74 (.agg (aT a)) (.agg (aT b))=some (.v (.bool (decide (a=b)))):=by simp only[fP,aJX,Option.map_some]
theorem aV7 (a b:Block):fP Tryz.prog .neq 74 (.agg (aT a)) (.agg (aT b))=some (.v (.bool (!(decide (a=b))))):=by simp only[fP,aJX,Option.map_some]
theorem aV8 (st:St) (parts:List (Nat × Operand)):iU Tryz.prog st 74 parts=if (parts.all fun p=>(st.ev p.2).jO)=true then (gM (fun i=>([(0,66),(66,1),(67,32),(99,32),(131,32),(163,4),(167,4),(171,33),(204,33),(237,1)]:List (Nat × Nat))[i]?) (aT fV) (parts.map fun p=>(p.1,st.ev p.2))).map .agg else none:=iD (z:=Uu) (by kernel_rfl) Sa (eX (by kernel_rfl))
theorem aV9 (cs:List AV) (o:Nat) (h:240<=cs.length-o):fC Tryz.prog 76 cs o=some (.agg (rd cs o 240)):=by
 have:fR Tryz.prog 76=some (true,240):=by kernel_rfl
 simp[fC,this,h]
theorem aWa:tT Tryz.prog 76=some 240:=by kernel_rfl
theorem aJY:aU Tryz.prog 76 0=some 0:=by kernel_rfl
theorem aJZ:aU Tryz.prog 76 1=some 238:=by kernel_rfl
theorem aJ0:aU Tryz.prog 76 2=some 239:=by kernel_rfl
theorem aJ1:dU Tryz.prog 76=some DC:=by kernel_rfl
theorem aPR (a b:Node):tR Tryz.prog 76 (eZ a) (eZ b)=some (decide (a=b)):=rP (l:=aHx) (by kernel_rfl) (by kernel_rfl) (by kernel_rfl) (Zv a b) (R6 a b)
theorem aWb (a b:Node):fP Tryz.prog .neq 76 (.agg (eZ a)) (.agg (eZ b))=some (.v (.bool (!(decide (a=b))))):=by simp only[fP,aPR,Option.map_some]
theorem aWc (st:St) (parts:List (Nat × Operand)):iU Tryz.prog st 76 parts=if (parts.all fun p=>(st.ev p.2).jO)=true then (gM (fun i=>([(0,238),(238,1),(239,1)]:List (Nat × Nat))[i]?) (eZ G8) (parts.map fun p=>(p.1,st.ev p.2))).map .agg else none:=iD (z:=DC) (by kernel_rfl) MW (eX (by kernel_rfl))
theorem aWd (cs:List AV) (o:Nat) (h:1<=cs.length-o):fC Tryz.prog 50 cs o=some (.agg (rd cs o 1)):=by
 have:fR Tryz.prog 50=some (true,1):=by kernel_rfl
 simp[fC,this,h]
theorem aWe:tT Tryz.prog 50=some 1:=by kernel_rfl
theorem aJ2:aU Tryz.prog 50 0=some 0:=by kernel_rfl
theorem aWf:dU Tryz.prog 50=some [.slice none 0 0]:=by kernel_rfl
theorem aWg (st:St) (parts:List (Nat × Operand)):iU Tryz.prog st 50 parts=if (parts.all fun p=>(st.ev p.2).jO)=true then (gM (fun i=>([(0,1)]:List (Nat × Nat))[i]?) [.v (.slice none 0 0)] (parts.map fun p=>(p.1,st.ev p.2))).map .agg else none:=iD (z:=[.slice none 0 0]) (by kernel_rfl) rfl (eX (by kernel_rfl))
theorem aWh:tT Tryz.prog 25=some 1:=by kernel_rfl
theorem aJ3:aU Tryz.prog 25 0=some 0:=by kernel_rfl
theorem aWi:dU Tryz.prog 25=some Lv:=by kernel_rfl
theorem aWj (st:St) (parts:List (Nat × Operand)):iU Tryz.prog st 25 parts=if (parts.all fun p=>(st.ev p.2).jO)=true then (gM (fun i=>([(0,1)]:List (Nat × Nat))[i]?) (mR Yy) (parts.map fun p=>(p.1,st.ev p.2))).map .agg else none:=iD (z:=Lv) (by kernel_rfl) Lw (eX (by kernel_rfl))
theorem aWk (cs:List AV) (o:Nat) (h:34<=cs.length-o):fC Tryz.prog 29 cs o=some (.agg (rd cs o 34)):=by
 have:fR Tryz.prog 29=some (true,34):=by kernel_rfl
 simp[fC,this,h]
theorem aWl:tT Tryz.prog 29=some 34:=by kernel_rfl
theorem aJ4:aU Tryz.prog 29 0=some 0:=by kernel_rfl
theorem aJ5:aU Tryz.prog 29 1=some 1:=by kernel_rfl
theorem aJ6:aU Tryz.prog 29 2=some 2:=by kernel_rfl
theorem aWm:dU Tryz.prog 29=some Ee:=by kernel_rfl
theorem aPS (a b:gO):tR Tryz.prog 29 (dD a) (dD b)=some (decide (a=b)):=rP (l:=UR) (by kernel_rfl) (by kernel_rfl) (by kernel_rfl) (GL a b) (NC a b)
theorem aWn (a b:gO):fP Tryz.prog .eql 29 (.agg (dD a)) (.agg (dD b))=some (.v (.bool (decide (a=b)))):=by simp only[fP,aPS,Option.map_some]
theorem aWo (st:St) (parts:List (Nat × Operand)):iU Tryz.prog st 29 parts=if (parts.all fun p=>(st.ev p.2).jO)=true then (gM (fun i=>([(0,1),(1,1),(2,32)]:List (Nat × Nat))[i]?) (dD DE) (parts.map fun p=>(p.1,st.ev p.2))).map .agg else none:=iD (z:=Ee) (by kernel_rfl) Pa (eX (by kernel_rfl))
theorem aWp (cs:List AV) (o:Nat) (h:6<=cs.length-o):fC Tryz.prog 31 cs o=some (.agg (rd cs o 6)):=by
 have:fR Tryz.prog 31=some (true,6):=by kernel_rfl
 simp[fC,this,h]
theorem aWq:tT Tryz.prog 31=some 6:=by kernel_rfl
theorem aJ7:aU Tryz.prog 31 0=some 0:=by kernel_rfl
theorem aJ8:aU Tryz.prog 31 1=some 1:=by kernel_rfl
theorem aJ9:aU Tryz.prog 31 2=some 2:=by kernel_rfl
theorem aKa:aU Tryz.prog 31 3=some 3:=by kernel_rfl
theorem aKb:aU Tryz.prog 31 4=some 4:=by kernel_rfl
theorem aKc:aU Tryz.prog 31 5=some 5:=by kernel_rfl
theorem aWr:dU Tryz.prog 31=some Sj:=by kernel_rfl
theorem aPT (a b:lN):tR Tryz.prog 31 (fB a) (fB b)=some (decide (a=b)):=rP (l:=H3) (by kernel_rfl) (by kernel_rfl) (by kernel_rfl) (NF a b) (US a b)
theorem aWs (a b:lN):fP Tryz.prog .neq 31 (.agg (fB a)) (.agg (fB b))=some (.v (.bool (!(decide (a=b))))):=by simp only[fP,aPT,Option.map_some]
theorem aWt (st:St) (parts:List (Nat × Operand)):iU Tryz.prog st 31 parts=if (parts.all fun p=>(st.ev p.2).jO)=true then (gM (fun i=>([(0,1),(1,1),(2,1),(3,1),(4,1),(5,1)]:List (Nat × Nat))[i]?) (fB ND) (parts.map fun p=>(p.1,st.ev p.2))).map .agg else none:=iD (z:=Sj) (by kernel_rfl) Vb (eX (by kernel_rfl))
theorem aWu (cs:List AV) (o:Nat) (h:45<=cs.length-o):fC Tryz.prog 36 cs o=some (.agg (rd cs o 45)):=by
 have:fR Tryz.prog 36=some (true,45):=by kernel_rfl
 simp[fC,this,h]
theorem aWv:tT Tryz.prog 36=some 45:=by kernel_rfl
theorem aKd:aU Tryz.prog 36 0=some 0:=by kernel_rfl
theorem aKe:aU Tryz.prog 36 1=some 6:=by kernel_rfl
theorem aKf:aU Tryz.prog 36 2=some 7:=by kernel_rfl
theorem aKg:aU Tryz.prog 36 3=some 8:=by kernel_rfl
theorem aKh:aU Tryz.prog 36 4=some 12:=by kernel_rfl
theorem aKi:aU Tryz.prog 36 5=some 44:=by kernel_rfl
theorem aWw:dU Tryz.prog 36=some Sn:=by kernel_rfl
theorem aWx (st:St) (parts:List (Nat × Operand)):iU Tryz.prog st 36 parts=if (parts.all fun p=>(st.ev p.2).jO)=true then (gM (fun i=>([(0,6),(6,1),(7,1),(8,4),(12,32),(44,1)]:List (Nat × Nat))[i]?) (bU oA) (parts.map fun p=>(p.1,st.ev p.2))).map .agg else none:=iD (z:=Sn) (by kernel_rfl) Vd (eX (by kernel_rfl))
theorem aPU (cs:List AV) (o:Nat) (h:34<=cs.length-o):fC Tryz.prog 100 cs o=some (.agg (rd cs o 34)):=by
 have:fR Tryz.prog 100=some (true,34):=by kernel_rfl
 simp[fC,this,h]
theorem aGK:tT Tryz.prog 100=some 34:=by kernel_rfl
theorem aFC:aU Tryz.prog 100 0=some 0:=by kernel_rfl
theorem aFD:aU Tryz.prog 100 1=some 1:=by kernel_rfl
theorem aFE:aU Tryz.prog 100 2=some 2:=by kernel_rfl
theorem aHB:dU Tryz.prog 100=some H4:=by kernel_rfl
theorem aHC (a b:kO):tR Tryz.prog 100 (jR a) (jR b)=some (decide (a=b)):=rP (l:=aHz) (by kernel_rfl) (by kernel_rfl) (by kernel_rfl) (u7 a b) (S9 a b)
theorem aPV (a b:kO):fP Tryz.prog .neq 100 (.agg (jR a)) (.agg (jR b))=some (.v (.bool (!(decide (a=b))))):=by simp only[fP,aHC,Option.map_some]
theorem aPW (st:St) (parts:List (Nat × Operand)):iU Tryz.prog st 100 parts=if (parts.all fun p=>(st.ev p.2).jO)=true then (gM (fun i=>([(0,1),(1,1),(2,32)]:List (Nat × Nat))[i]?) (jR tV) (parts.map fun p=>(p.1,st.ev p.2))).map .agg else none:=iD (z:=H4) (by kernel_rfl) H5 (eX (by kernel_rfl))
theorem aWy (cs:List AV) (o:Nat) (h:67<=cs.length-o):fC Tryz.prog 87 cs o=some (.agg (rd cs o 67)):=by
 have:fR Tryz.prog 87=some (true,67):=by kernel_rfl
 simp[fC,this,h]
theorem aWz:tT Tryz.prog 87=some 67:=by kernel_rfl
theorem aKj:aU Tryz.prog 87 0=some 0:=by kernel_rfl
theorem aKk:aU Tryz.prog 87 1=some 1:=by kernel_rfl
theorem aKl:aU Tryz.prog 87 2=some 33:=by kernel_rfl
theorem aKm:aU Tryz.prog 87 3=some 66:=by kernel_rfl
theorem aPX:dU Tryz.prog 87=some aCT:=by kernel_rfl
theorem aWA (st:St) (parts:List (Nat × Operand)):iU Tryz.prog st 87 parts=if (parts.all fun p=>(st.ev p.2).jO)=true then (gM (fun i=>([(0,1),(1,32),(33,33),(66,1)]:List (Nat × Nat))[i]?) (gZ Ma) (parts.map fun p=>(p.1,st.ev p.2))).map .agg else none:=iD (z:=aCT) (by kernel_rfl) u9 (eX (by kernel_rfl))
theorem aPY (cs:List AV) (o:Nat) (h:35<=cs.length-o):fC Tryz.prog 186 cs o=some (.agg (rd cs o 35)):=by
 have:fR Tryz.prog 186=some (true,35):=by kernel_rfl
 simp[fC,this,h]
theorem aPZ:tT Tryz.prog 186=some 35:=by kernel_rfl
theorem aFF:aU Tryz.prog 186 0=some 0:=by kernel_rfl
theorem aFG:aU Tryz.prog 186 1=some 1:=by kernel_rfl
theorem aFH:aU Tryz.prog 186 2=some 2:=by kernel_rfl
theorem aFI:aU Tryz.prog 186 3=some 34:=by kernel_rfl
theorem aP0:dU Tryz.prog 186=some Ve:=by kernel_rfl
theorem aP1 (st:St) (parts:List (Nat × Operand)):iU Tryz.prog st 186 parts=if (parts.all fun p=>(st.ev p.2).jO)=true then (gM (fun i=>([(0,1),(1,1),(2,32),(34,1)]:List (Nat × Nat))[i]?) (gN NL) (parts.map fun p=>(p.1,st.ev p.2))).map .agg else none:=iD (z:=Ve) (by kernel_rfl) DI (eX (by kernel_rfl))
theorem aP2 (cs:List AV) (o:Nat) (h:70<=cs.length-o):fC Tryz.prog 188 cs o=some (.agg (rd cs o 70)):=by
 have:fR Tryz.prog 188=some (true,70):=by kernel_rfl
 simp[fC,this,h]
theorem aP3:tT Tryz.prog 188=some 70:=by kernel_rfl
theorem aFJ:aU Tryz.prog 188 0=some 0:=by kernel_rfl
theorem aFK:aU Tryz.prog 188 1=some 35:=by kernel_rfl
theorem aP4:dU Tryz.prog 188=some Fg:=by kernel_rfl
theorem aP5 (st:St) (parts:List (Nat × Operand)):iU Tryz.prog st 188 parts=if (parts.all fun p=>(st.ev p.2).jO)=true then (gM (fun i=>([(0,35),(35,35)]:List (Nat × Nat))[i]?) (bZ Vf) (parts.map fun p=>(p.1,st.ev p.2))).map .agg else none:=iD (z:=Fg) (by kernel_rfl) Jx (eX (by kernel_rfl))
theorem aP6 (cs:List AV) (o:Nat) (h:34<=cs.length-o):fC Tryz.prog 118 cs o=some (.agg (rd cs o 34)):=by
 have:fR Tryz.prog 118=some (true,34):=by kernel_rfl
 simp[fC,this,h]
theorem aP7:tT Tryz.prog 118=some 34:=by kernel_rfl
theorem aFL:aU Tryz.prog 118 0=some 0:=by kernel_rfl
theorem aFM:aU Tryz.prog 118 1=some 33:=by kernel_rfl
theorem aHD:dU Tryz.prog 118=some DJ:=by kernel_rfl
theorem aP8 (st:St) (parts:List (Nat × Operand)):iU Tryz.prog st 118 parts=if (parts.all fun p=>(st.ev p.2).jO)=true then (gM (fun i=>([(0,33),(33,1)]:List (Nat × Nat))[i]?) (cF iW) (parts.map fun p=>(p.1,st.ev p.2))).map .agg else none:=iD (z:=DJ) (by kernel_rfl) DK (eX (by kernel_rfl))
theorem aWB (cs:List AV) (o:Nat) (h:35<=cs.length-o):fC Tryz.prog 63 cs o=some (.agg (rd cs o 35)):=by
 have:fR Tryz.prog 63=some (true,35):=by kernel_rfl
 simp[fC,this,h]
theorem aIB:tT Tryz.prog 63=some 35:=by kernel_rfl
theorem aKn:aU Tryz.prog 63 0=some 0:=by kernel_rfl
theorem aKo:aU Tryz.prog 63 1=some 1:=by kernel_rfl
theorem aKp:aU Tryz.prog 63 2=some 33:=by kernel_rfl
theorem aKq:aU Tryz.prog 63 3=some 34:=by kernel_rfl
theorem aKr:dU Tryz.prog 63=some Ss:=by kernel_rfl
theorem aP9 (a b:Request):tR Tryz.prog 63 (bA a) (bA b)=some (decide (a=b)):=rP (l:=VD) (by kernel_rfl) (by kernel_rfl) (by kernel_rfl) (GY a b) (NP a b)
theorem aWC (a b:Request):fP Tryz.prog .neq 63 (.agg (bA a)) (.agg (bA b))=some (.v (.bool (!(decide (a=b))))):=by simp only[fP,aP9,Option.map_some]
theorem aWD (st:St) (parts:List (Nat × Operand)):iU Tryz.prog st 63 parts=if (parts.all fun p=>(st.ev p.2).jO)=true then (gM (fun i=>([(0,1),(1,32),(33,1),(34,1)]:List (Nat × Nat))[i]?) (bA bB) (parts.map fun p=>(p.1,st.ev p.2))).map .agg else none:=iD (z:=Ss) (by kernel_rfl) DM (eX (by kernel_rfl))
theorem aWE (cs:List AV) (o:Nat) (h:96<=cs.length-o):fC Tryz.prog 56 cs o=some (.agg (rd cs o 96)):=by
 have:fR Tryz.prog 56=some (true,96):=by kernel_rfl
 simp[fC,this,h]
theorem aWF:tT Tryz.prog 56=some 96:=by kernel_rfl
theorem aKs:aU Tryz.prog 56 0=some 0:=by kernel_rfl
theorem aKt:aU Tryz.prog 56 1=some 32:=by kernel_rfl
theorem aKu:aU Tryz.prog 56 2=some 64:=by kernel_rfl
theorem aQa:dU Tryz.prog 56=some Jy:=by kernel_rfl
theorem aQb (a b:Command):tR Tryz.prog 56 (dV a) (dV b)=some (decide (a=b)):=rP (l:=VE) (by kernel_rfl) (by kernel_rfl) (by kernel_rfl) (GZ a b) (NQ a b)
theorem aWG (a b:Command):fP Tryz.prog .eql 56 (.agg (dV a)) (.agg (dV b))=some (.v (.bool (decide (a=b)))):=by simp only[fP,aQb,Option.map_some]
theorem aWH (st:St) (parts:List (Nat × Operand)):iU Tryz.prog st 56 parts=if (parts.all fun p=>(st.ev p.2).jO)=true then (gM (fun i=>([(0,32),(32,32),(64,32)]:List (Nat × Nat))[i]?) (dV DQ) (parts.map fun p=>(p.1,st.ev p.2))).map .agg else none:=iD (z:=Jy) (by kernel_rfl) Pg (eX (by kernel_rfl))
theorem aWI (cs:List AV) (o:Nat) (h:2<=cs.length-o):fC Tryz.prog 39 cs o=some (.agg (rd cs o 2)):=by
 have:fR Tryz.prog 39=some (true,2):=by kernel_rfl
 simp[fC,this,h]
theorem aWJ:tT Tryz.prog 39=some 2:=by kernel_rfl
theorem aKv:aU Tryz.prog 39 0=some 0:=by kernel_rfl
theorem aKw:aU Tryz.prog 39 1=some 1:=by kernel_rfl
theorem aWK:dU Tryz.prog 39=some DT:=by kernel_rfl
theorem aWL (st:St) (parts:List (Nat × Operand)):iU Tryz.prog st 39 parts=if (parts.all fun p=>(st.ev p.2).jO)=true then (gM (fun i=>([(0,1),(1,1)]:List (Nat × Nat))[i]?) (eP Nw) (parts.map fun p=>(p.1,st.ev p.2))).map .agg else none:=iD (z:=DT) (by kernel_rfl) DU (eX (by kernel_rfl))
theorem aWM (cs:List AV) (o:Nat) (h:66<=cs.length-o):fC Tryz.prog 43 cs o=some (.agg (rd cs o 66)):=by
 have:fR Tryz.prog 43=some (true,66):=by kernel_rfl
 simp[fC,this,h]
theorem aWN:tT Tryz.prog 43=some 66:=by kernel_rfl
theorem aKx:aU Tryz.prog 43 0=some 0:=by kernel_rfl
theorem aKy:aU Tryz.prog 43 1=some 33:=by kernel_rfl
theorem aWO:dU Tryz.prog 43=some Fj:=by kernel_rfl
theorem aQc (a b:jZ):tR Tryz.prog 43 (eA a) (eA b)=some (decide (a=b)):=rP (l:=JK) (by kernel_rfl) (by kernel_rfl) (by kernel_rfl) (DV a b) (HA a b)
theorem aWP (a b:jZ):fP Tryz.prog .neq 43 (.agg (eA a)) (.agg (eA b))=some (.v (.bool (!(decide (a=b))))):=by simp only[fP,aQc,Option.map_some]
theorem aWQ (st:St) (parts:List (Nat × Operand)):iU Tryz.prog st 43 parts=if (parts.all fun p=>(st.ev p.2).jO)=true then (gM (fun i=>([(0,33),(33,33)]:List (Nat × Nat))[i]?) (eA Vk) (parts.map fun p=>(p.1,st.ev p.2))).map .agg else none:=iD (z:=Fj) (by kernel_rfl) Ka (eX (by kernel_rfl))
theorem aWR:tT Tryz.prog 47=some 2:=by kernel_rfl
theorem aKz:aU Tryz.prog 47 0=some 0:=by kernel_rfl
theorem aKA:aU Tryz.prog 47 1=some 1:=by kernel_rfl
theorem aWS:dU Tryz.prog 47=some Yz:=by kernel_rfl
theorem aWT (cs:List AV) (o:Nat) (h:150<=cs.length-o):fC Tryz.prog 53 cs o=some (.agg (rd cs o 150)):=by
 have:fR Tryz.prog 53=some (true,150):=by kernel_rfl
 simp[fC,this,h]
theorem aWU:tT Tryz.prog 53=some 150:=by kernel_rfl
theorem aKB:aU Tryz.prog 53 0=some 0:=by kernel_rfl
theorem aKC:aU Tryz.prog 53 1=some 45:=by kernel_rfl
theorem aKD:aU Tryz.prog 53 2=some 47:=by kernel_rfl
theorem aKE:aU Tryz.prog 53 3=some 113:=by kernel_rfl
theorem aKF:aU Tryz.prog 53 4=some 115:=by kernel_rfl
theorem aKG:aU Tryz.prog 53 5=some 116:=by kernel_rfl
theorem aKH:aU Tryz.prog 53 6=some 117:=by kernel_rfl
theorem aKI:aU Tryz.prog 53 7=some 149:=by kernel_rfl
theorem aWV:dU Tryz.prog 53=some DY:=by kernel_rfl
theorem aWW (st:St) (parts:List (Nat × Operand)):iU Tryz.prog st 53 parts=if (parts.all fun p=>(st.ev p.2).jO)=true then (gM (fun i=>([(0,45),(45,2),(47,66),(113,2),(115,1),(116,1),(117,32),(149,1)]:List (Nat × Nat))[i]?) (aB gK) (parts.map fun p=>(p.1,st.ev p.2))).map .agg else none:=iD (z:=DY) (by kernel_rfl) DZ (eX (by kernel_rfl))
theorem aWX (cs:List AV) (o:Nat) (h:252<=cs.length-o):fC Tryz.prog 58 cs o=some (.agg (rd cs o 252)):=by
 have:fR Tryz.prog 58=some (true,252):=by kernel_rfl
 simp[fC,this,h]
theorem aWY:tT Tryz.prog 58=some 252:=by kernel_rfl
theorem aKJ:aU Tryz.prog 58 0=some 0:=by kernel_rfl
theorem aKK:aU Tryz.prog 58 1=some 150:=by kernel_rfl
theorem aKL:aU Tryz.prog 58 2=some 151:=by kernel_rfl
theorem aKM:aU Tryz.prog 58 3=some 152:=by kernel_rfl
theorem aKN:aU Tryz.prog 58 4=some 153:=by kernel_rfl
theorem aKO:aU Tryz.prog 58 5=some 154:=by kernel_rfl
theorem aKP:aU Tryz.prog 58 6=some 250:=by kernel_rfl
theorem aKQ:aU Tryz.prog 58 7=some 251:=by kernel_rfl
theorem aWZ:dU Tryz.prog 58=some NX:=by kernel_rfl
theorem aW0 (st:St) (parts:List (Nat × Operand)):iU Tryz.prog st 58 parts=if (parts.all fun p=>(st.ev p.2).jO)=true then (gM (fun i=>([(0,150),(150,1),(151,1),(152,1),(153,1),(154,96),(250,1),(251,1)]:List (Nat × Nat))[i]?) (aF lD) (parts.map fun p=>(p.1,st.ev p.2))).map .agg else none:=iD (z:=NX) (by kernel_rfl) VG (eX (by kernel_rfl))
theorem aQd (cs:List AV) (o:Nat) (h:446<=cs.length-o):fC Tryz.prog 190 cs o=some (.agg (rd cs o 446)):=by
 have:fR Tryz.prog 190=some (true,446):=by kernel_rfl
 simp[fC,this,h]
theorem aQe:tT Tryz.prog 190=some 446:=by kernel_rfl
theorem aFN:aU Tryz.prog 190 0=some 0:=by kernel_rfl
theorem aFO:aU Tryz.prog 190 1=some 1:=by kernel_rfl
theorem aFP:aU Tryz.prog 190 2=some 239:=by kernel_rfl
theorem aFQ:aU Tryz.prog 190 3=some 306:=by kernel_rfl
theorem aFR:aU Tryz.prog 190 4=some 376:=by kernel_rfl
theorem aFS:aU Tryz.prog 190 5=some 410:=by kernel_rfl
theorem aFT:aU Tryz.prog 190 6=some 444:=by kernel_rfl
theorem aFU:aU Tryz.prog 190 7=some 445:=by kernel_rfl
theorem aHE:dU Tryz.prog 190=some aFA:=by kernel_rfl
theorem aQf (st:St) (parts:List (Nat × Operand)):iU Tryz.prog st 190 parts=if (parts.all fun p=>(st.ev p.2).jO)=true then (gM (fun i=>([(0,1),(1,238),(239,67),(306,70),(376,34),(410,34),(444,1),(445,1)]:List (Nat × Nat))[i]?) (kX Ao) (parts.map fun p=>(p.1,st.ev p.2))).map .agg else none:=iD (z:=aFA) (by kernel_rfl) aCU (eX (by kernel_rfl))
theorem aKR (cs:List AV):Nn Tryz.prog 41 0 (.agg cs)=cs[0]?:=l8 (k:=1) (by kernel_rfl)
theorem Lx:dI Tryz.prog 22=some (3,1,8):=by kernel_rfl
theorem aFV:jI Tryz.prog 22=none:=by kernel_rfl
theorem aW1 (cs:List AV) (o:Nat):fC Tryz.prog 22 cs o=cs[o]?:=by
 have:fR Tryz.prog 22=some (false,1):=by kernel_rfl
 simp only[fC,this]
theorem aW2:tT Tryz.prog 22=some 1:=by kernel_rfl
theorem aW3:dU Tryz.prog 22=some [.slice none 0 0]:=by kernel_rfl
theorem aW4 (n:Nat) (cs:List AV) (h:cs≠[]):fP Tryz.prog .eql 22 (.sl n cs) (.v (.slice none 0 0))=some (.v (.bool false)):=by
 have:Tryz.prog.underlying 22=some (.slice 3):=by kernel_rfl
 cases cs with
 | nil=>exact absurd rfl h
 | cons c cs=>simp[fP,sN,this]
theorem aW5:fP Tryz.prog .eql 22 (.v (.slice none 0 0)) (.v (.slice none 0 0))=some (.v (.bool true)):=by
 have:Tryz.prog.underlying 22=some (.slice 3):=by kernel_rfl
 simp[fP,sN,this]
theorem z7:dI Tryz.prog 34=some (23,1,8):=by kernel_rfl
theorem aKS:jI Tryz.prog 34=none:=by kernel_rfl
theorem aW6 (cs:List AV) (o:Nat):fC Tryz.prog 34 cs o=cs[o]?:=by
 have:fR Tryz.prog 34=some (false,1):=by kernel_rfl
 simp only[fC,this]
theorem aW7:tT Tryz.prog 34=some 1:=by kernel_rfl
theorem aW8:dU Tryz.prog 34=some [.slice none 0 0]:=by kernel_rfl
theorem aW9 (n:Nat) (cs:List AV) (h:cs≠[]):fP Tryz.prog .eql 34 (.sl n cs) (.v (.slice none 0 0))=some (.v (.bool false)):=by
 have:Tryz.prog.underlying 34=some (.slice 23):=by kernel_rfl
 cases cs with
 | nil=>exact absurd rfl h
 | cons c cs=>simp[fP,sN,this]
theorem aXa:fP Tryz.prog .eql 34 (.v (.slice none 0 0)) (.v (.slice none 0 0))=some (.v (.bool true)):=by
 have:Tryz.prog.underlying 34=some (.slice 23):=by kernel_rfl
 simp[fP,sN,this]
theorem T5:dI Tryz.prog 37=some (100,34,48):=by kernel_rfl
theorem aKT:jI Tryz.prog 37=none:=by kernel_rfl
theorem aXb (cs:List AV) (o:Nat):fC Tryz.prog 37 cs o=cs[o]?:=by
 have:fR Tryz.prog 37=some (false,1):=by kernel_rfl
 simp only[fC,this]
theorem aXc:tT Tryz.prog 37=some 1:=by kernel_rfl
theorem aXd:dU Tryz.prog 37=some [.slice none 0 0]:=by kernel_rfl
theorem aXe (n:Nat) (cs:List AV) (h:cs≠[]):fP Tryz.prog .eql 37 (.sl n cs) (.v (.slice none 0 0))=some (.v (.bool false)):=by
 have:Tryz.prog.underlying 37=some (.slice 100):=by kernel_rfl
 cases cs with
 | nil=>exact absurd rfl h
 | cons c cs=>simp[fP,sN,this]
theorem aXf:fP Tryz.prog .eql 37 (.v (.slice none 0 0)) (.v (.slice none 0 0))=some (.v (.bool true)):=by
 have:Tryz.prog.underlying 37=some (.slice 100):=by kernel_rfl
 simp[fP,sN,this]
theorem aCV:dI Tryz.prog 44=some (87,67,104):=by kernel_rfl
theorem aQg:jI Tryz.prog 44=none:=by kernel_rfl
theorem aXg (cs:List AV) (o:Nat):fC Tryz.prog 44 cs o=cs[o]?:=by
 have:fR Tryz.prog 44=some (false,1):=by kernel_rfl
 simp only[fC,this]
theorem aXh:tT Tryz.prog 44=some 1:=by kernel_rfl
theorem aXi:dU Tryz.prog 44=some [.slice none 0 0]:=by kernel_rfl
theorem nY:dI Tryz.prog 45=some (74,238,336):=by kernel_rfl
theorem aKU:jI Tryz.prog 45=none:=by kernel_rfl
theorem aXj (cs:List AV) (o:Nat):fC Tryz.prog 45 cs o=cs[o]?:=by
 have:fR Tryz.prog 45=some (false,1):=by kernel_rfl
 simp only[fC,this]
theorem aXk:tT Tryz.prog 45=some 1:=by kernel_rfl
theorem aXl:dU Tryz.prog 45=some [.slice none 0 0]:=by kernel_rfl
theorem aXm (n:Nat) (cs:List AV) (h:cs≠[]):fP Tryz.prog .eql 45 (.sl n cs) (.v (.slice none 0 0))=some (.v (.bool false)):=by
 have:Tryz.prog.underlying 45=some (.slice 74):=by kernel_rfl
 cases cs with
 | nil=>exact absurd rfl h
 | cons c cs=>simp[fP,sN,this]
theorem aXn:fP Tryz.prog .eql 45 (.v (.slice none 0 0)) (.v (.slice none 0 0))=some (.v (.bool true)):=by
 have:Tryz.prog.underlying 45=some (.slice 74):=by kernel_rfl
 simp[fP,sN,this]
theorem VJ:dI Tryz.prog 48=some (76,240,352):=by kernel_rfl
theorem aKV:jI Tryz.prog 48=none:=by kernel_rfl
theorem aXo (cs:List AV) (o:Nat):fC Tryz.prog 48 cs o=cs[o]?:=by
 have:fR Tryz.prog 48=some (false,1):=by kernel_rfl
 simp only[fC,this]
theorem aXp:tT Tryz.prog 48=some 1:=by kernel_rfl
theorem aXq:dU Tryz.prog 48=some [.slice none 0 0]:=by kernel_rfl
theorem aXr (n:Nat) (cs:List AV) (h:cs≠[]):fP Tryz.prog .eql 48 (.sl n cs) (.v (.slice none 0 0))=some (.v (.bool false)):=by
 have:Tryz.prog.underlying 48=some (.slice 76):=by kernel_rfl
 cases cs with
 | nil=>exact absurd rfl h
 | cons c cs=>simp[fP,sN,this]
theorem OJ:dI Tryz.prog 51=some (118,34,64):=by kernel_rfl
theorem aQh:jI Tryz.prog 51=none:=by kernel_rfl
theorem aXs (cs:List AV) (o:Nat):fC Tryz.prog 51 cs o=cs[o]?:=by
 have:fR Tryz.prog 51=some (false,1):=by kernel_rfl
 simp only[fC,this]
theorem aXt:tT Tryz.prog 51=some 1:=by kernel_rfl
theorem aXu:dU Tryz.prog 51=some [.slice none 0 0]:=by kernel_rfl
theorem Mc:dI Tryz.prog 54=some (63,35,56):=by kernel_rfl
theorem aKW:jI Tryz.prog 54=none:=by kernel_rfl
theorem aXv (cs:List AV) (o:Nat):fC Tryz.prog 54 cs o=cs[o]?:=by
 have:fR Tryz.prog 54=some (false,1):=by kernel_rfl
 simp only[fC,this]
theorem aXw:tT Tryz.prog 54=some 1:=by kernel_rfl
theorem aXx:dU Tryz.prog 54=some [.slice none 0 0]:=by kernel_rfl
theorem aXy (n:Nat) (cs:List AV) (h:cs≠[]):fP Tryz.prog .eql 54 (.sl n cs) (.v (.slice none 0 0))=some (.v (.bool false)):=by
 have:Tryz.prog.underlying 54=some (.slice 63):=by kernel_rfl
 cases cs with
 | nil=>exact absurd rfl h
 | cons c cs=>simp[fP,sN,this]
theorem aXz:fP Tryz.prog .eql 54 (.v (.slice none 0 0)) (.v (.slice none 0 0))=some (.v (.bool true)):=by
 have:Tryz.prog.underlying 54=some (.slice 63):=by kernel_rfl
 simp[fP,sN,this]
theorem aFW:dI Tryz.prog 70=some (27,32,32):=by kernel_rfl
theorem aQi:jI Tryz.prog 70=none:=by kernel_rfl
theorem aXA:tT Tryz.prog 70=some 1:=by kernel_rfl
theorem aXB:dU Tryz.prog 70=some [.slice none 0 0]:=by kernel_rfl
theorem Z3:dI Tryz.prog 109=some (41,33,40):=by kernel_rfl
theorem aHF:jI Tryz.prog 109=none:=by kernel_rfl
theorem aQj:tT Tryz.prog 109=some 1:=by kernel_rfl
theorem aQk:dU Tryz.prog 109=some [.slice none 0 0]:=by kernel_rfl
theorem H6:dI Tryz.prog 124=some (190,446,720):=by kernel_rfl
theorem aQl:jI Tryz.prog 124=none:=by kernel_rfl
theorem aQm:tT Tryz.prog 124=some 1:=by kernel_rfl
theorem aQn:dU Tryz.prog 124=some [.slice none 0 0]:=by kernel_rfl
theorem aHG:dI Tryz.prog 181=some (56,96,96):=by kernel_rfl
theorem aQo:jI Tryz.prog 181=none:=by kernel_rfl
theorem aQp:tT Tryz.prog 181=some 1:=by kernel_rfl
theorem aQq:dU Tryz.prog 181=some [.slice none 0 0]:=by kernel_rfl
theorem H7:dI Tryz.prog 236=some (5,1,1):=by kernel_rfl
theorem aQr:jI Tryz.prog 236=none:=by kernel_rfl
theorem aQs:tT Tryz.prog 236=some 1:=by kernel_rfl
theorem aQt:dU Tryz.prog 236=some [.slice none 0 0]:=by kernel_rfl
theorem VK:dI Tryz.prog 262=some (4,1,1):=by kernel_rfl
theorem aHH:jI Tryz.prog 262=none:=by kernel_rfl
theorem aQu:tT Tryz.prog 262=some 1:=by kernel_rfl
theorem aQv:dU Tryz.prog 262=some [.slice none 0 0]:=by kernel_rfl
theorem aXC {call:Nat->List AV->Option AV} {ops:Array Oper} {st:St} {T:Nat} {pos:String} {eK:Array Edge} (d:Nat):cE Tryz.prog call ops ⟨some d,.buildSlice 22 0 #[],T,pos,eK,none⟩ st=some ((st.new d (.row 3 1 0 [])).put (some d) (.own d (st.aK d))):=Oz Lx ze3 d
theorem aXD (st:St) (x:AV):cY Tryz.prog st 34 (.v (.slice none 0 0)) x=yY 23 1 8 (aQ st x):=vB z7 x
theorem aXE (st:St) (s g:Nat) (x:AV):cY Tryz.prog st 34 (.own s g) x=yK 23 1 8 (st.heap s g) s g (aQ st x):=sG z7 s g x
theorem aXF (st:St) (s g:Nat) (kk:IntKind) (i:Int):bE Tryz.prog st 34 (.own s g) (.v (.int kk i))=TX 23 1 (st.heap s g) s g i:=Sc aKS z7 s g kk i
theorem aXG {call:Nat->List AV->Option AV} {ops:Array Oper} {st:St} {T:Nat} {pos:String} {eK:Array Edge} (d:Nat):cE Tryz.prog call ops ⟨some d,.buildSlice 34 0 #[],T,pos,eK,none⟩ st=some ((st.new d (.row 23 1 0 [])).put (some d) (.own d (st.aK d))):=Oz z7 aJG d
theorem aXH {call:Nat->List AV->Option AV} {ops:Array Oper} {st:St} {T:Nat} {pos:String} {eK:Array Edge} (d:Nat) (x:Operand):cE Tryz.prog call ops ⟨some d,.buildSlice 34 1 #[(0,x)],T,pos,eK,none⟩ st=elV (st.ev x) (fun y=>some ((st.new d (.row 23 1 1 [.v y])).put (some d) (.own d (st.aK d)))) (cE Tryz.prog call ops ⟨some d,.buildSlice 34 1 #[(0,x)],T,pos,eK,none⟩ st):=MX z7 aJG d x
theorem aXI (st:St) (x:AV):cY Tryz.prog st 37 (.v (.slice none 0 0)) x=yY 100 34 48 (aQ st x):=vB T5 x
theorem aXJ (st:St) (s g:Nat) (x:AV):cY Tryz.prog st 37 (.own s g) x=yK 100 34 48 (st.heap s g) s g (aQ st x):=sG T5 s g x
theorem aXK (st:St) (s g:Nat) (kk:IntKind) (i:Int):bE Tryz.prog st 37 (.own s g) (.v (.int kk i))=TX 100 34 (st.heap s g) s g i:=Sc aKT T5 s g kk i
theorem aXL {call:Nat->List AV->Option AV} {ops:Array Oper} {st:St} {T:Nat} {pos:String} {eK:Array Edge} (d:Nat):cE Tryz.prog call ops ⟨some d,.buildSlice 37 0 #[],T,pos,eK,none⟩ st=some ((st.new d (.row 100 34 0 [])).put (some d) (.own d (st.aK d))):=Oz T5 aHB d
theorem aXM (st:St) (x:AV):cY Tryz.prog st 44 (.v (.slice none 0 0)) x=yY 87 67 104 (aQ st x):=vB aCV x
theorem aXN (st:St) (s g:Nat) (x:AV):cY Tryz.prog st 44 (.own s g) x=yK 87 67 104 (st.heap s g) s g (aQ st x):=sG aCV s g x
theorem aXO {call:Nat->List AV->Option AV} {ops:Array Oper} {st:St} {T:Nat} {pos:String} {eK:Array Edge} (d:Nat) (x:Operand):cE Tryz.prog call ops ⟨some d,.buildSlice 44 1 #[(0,x)],T,pos,eK,none⟩ st=X6 67 (st.ev x) (fun cs=>some ((st.new d (.row 87 67 1 cs)).put (some d) (.own d (st.aK d)))) (cE Tryz.prog call ops ⟨some d,.buildSlice 44 1 #[(0,x)],T,pos,eK,none⟩ st):=Gv aCV aPX (by rfl) (by decide) d x
theorem aXP (st:St) (x:AV):cY Tryz.prog st 45 (.v (.slice none 0 0)) x=yY 74 238 336 (aQ st x):=vB nY x
theorem aXQ (st:St) (s g:Nat) (x:AV):cY Tryz.prog st 45 (.own s g) x=yK 74 238 336 (st.heap s g) s g (aQ st x):=sG nY s g x
theorem aXR (st:St) (s g:Nat) (kk:IntKind) (i:Int):bE Tryz.prog st 45 (.own s g) (.v (.int kk i))=TX 74 238 (st.heap s g) s g i:=Sc aKU nY s g kk i
theorem aXS {call:Nat->List AV->Option AV} {ops:Array Oper} {st:St} {T:Nat} {pos:String} {eK:Array Edge} (d:Nat):cE Tryz.prog call ops ⟨some d,.buildSlice 45 0 #[],T,pos,eK,none⟩ st=some ((st.new d (.row 74 238 0 [])).put (some d) (.own d (st.aK d))):=Oz nY aFB d
theorem aXT {call:Nat->List AV->Option AV} {ops:Array Oper} {st:St} {T:Nat} {pos:String} {eK:Array Edge} (d:Nat) (x:Operand):cE Tryz.prog call ops ⟨some d,.buildSlice 45 1 #[(0,x)],T,pos,eK,none⟩ st=X6 238 (st.ev x) (fun cs=>some ((st.new d (.row 74 238 1 cs)).put (some d) (.own d (st.aK d)))) (cE Tryz.prog call ops ⟨some d,.buildSlice 45 1 #[(0,x)],T,pos,eK,none⟩ st):=Gv nY aFB (by rfl) (by decide) d x
theorem aXU {call:Nat->List AV->Option AV} {ops:Array Oper} {st:St} {T:Nat} {pos:String} {eK:Array Edge} (d:Nat):cE Tryz.prog call ops ⟨some d,.buildSlice 48 0 #[],T,pos,eK,none⟩ st=some ((st.new d (.row 76 240 0 [])).put (some d) (.own d (st.aK d))):=Oz VJ aJ1 d
theorem aXV (st:St) (x:AV):cY Tryz.prog st 51 (.v (.slice none 0 0)) x=yY 118 34 64 (aQ st x):=vB OJ x
theorem aXW (st:St) (s g:Nat) (x:AV):cY Tryz.prog st 51 (.own s g) x=yK 118 34 64 (st.heap s g) s g (aQ st x):=sG OJ s g x
theorem aXX {call:Nat->List AV->Option AV} {ops:Array Oper} {st:St} {T:Nat} {pos:String} {eK:Array Edge} (d:Nat) (x:Operand):cE Tryz.prog call ops ⟨some d,.buildSlice 51 1 #[(0,x)],T,pos,eK,none⟩ st=X6 34 (st.ev x) (fun cs=>some ((st.new d (.row 118 34 1 cs)).put (some d) (.own d (st.aK d)))) (cE Tryz.prog call ops ⟨some d,.buildSlice 51 1 #[(0,x)],T,pos,eK,none⟩ st):=Gv OJ aHD (by rfl) (by decide) d x
theorem aXY (st:St) (x:AV):cY Tryz.prog st 54 (.v (.slice none 0 0)) x=yY 63 35 56 (aQ st x):=vB Mc x
theorem aXZ (st:St) (s g:Nat) (x:AV):cY Tryz.prog st 54 (.own s g) x=yK 63 35 56 (st.heap s g) s g (aQ st x):=sG Mc s g x
theorem aX0 (st:St) (s g:Nat) (kk:IntKind) (i:Int):bE Tryz.prog st 54 (.own s g) (.v (.int kk i))=TX 63 35 (st.heap s g) s g i:=Sc aKW Mc s g kk i
theorem aX1 {call:Nat->List AV->Option AV} {ops:Array Oper} {st:St} {T:Nat} {pos:String} {eK:Array Edge} (d:Nat):cE Tryz.prog call ops ⟨some d,.buildSlice 54 0 #[],T,pos,eK,none⟩ st=some ((st.new d (.row 63 35 0 [])).put (some d) (.own d (st.aK d))):=Oz Mc aKr d
theorem aX2 {call:Nat->List AV->Option AV} {ops:Array Oper} {st:St} {T:Nat} {pos:String} {eK:Array Edge} (d:Nat) (x:Operand):cE Tryz.prog call ops ⟨some d,.buildSlice 54 1 #[(0,x)],T,pos,eK,none⟩ st=X6 35 (st.ev x) (fun cs=>some ((st.new d (.row 63 35 1 cs)).put (some d) (.own d (st.aK d)))) (cE Tryz.prog call ops ⟨some d,.buildSlice 54 1 #[(0,x)],T,pos,eK,none⟩ st):=Gv Mc aKr (by rfl) (by decide) d x
theorem aX3 (st:St) (s g:Nat) (x:AV):cY Tryz.prog st 70 (.own s g) x=yK 27 32 32 (st.heap s g) s g (aQ st x):=sG aFW s g x
theorem aX4 {call:Nat->List AV->Option AV} {ops:Array Oper} {st:St} {T:Nat} {pos:String} {eK:Array Edge} (d:Nat) (x:Operand):cE Tryz.prog call ops ⟨some d,.buildSlice 70 1 #[(0,x)],T,pos,eK,none⟩ st=X6 32 (st.ev x) (fun cs=>some ((st.new d (.row 27 32 1 cs)).put (some d) (.own d (st.aK d)))) (cE Tryz.prog call ops ⟨some d,.buildSlice 70 1 #[(0,x)],T,pos,eK,none⟩ st):=Gv aFW aPP (by rfl) (by decide) d x
theorem aQw (st:St) (s g:Nat) (kk:IntKind) (i:Int):bE Tryz.prog st 109 (.own s g) (.v (.int kk i))=TX 41 33 (st.heap s g) s g i:=Sc aHF Z3 s g kk i
theorem aQx (st:St) (x:AV):cY Tryz.prog st 124 (.v (.slice none 0 0)) x=yY 190 446 720 (aQ st x):=vB H6 x
theorem aQy (st:St) (s g:Nat) (x:AV):cY Tryz.prog st 124 (.own s g) x=yK 190 446 720 (st.heap s g) s g (aQ st x):=sG H6 s g x
theorem aQz {call:Nat->List AV->Option AV} {ops:Array Oper} {st:St} {T:Nat} {pos:String} {eK:Array Edge} (d:Nat) (x:Operand):cE Tryz.prog call ops ⟨some d,.buildSlice 124 1 #[(0,x)],T,pos,eK,none⟩ st=X6 446 (st.ev x) (fun cs=>some ((st.new d (.row 190 446 1 cs)).put (some d) (.own d (st.aK d)))) (cE Tryz.prog call ops ⟨some d,.buildSlice 124 1 #[(0,x)],T,pos,eK,none⟩ st):=Gv H6 aHE (by rfl) (by decide) d x
theorem aQA {call:Nat->List AV->Option AV} {ops:Array Oper} {st:St} {T:Nat} {pos:String} {eK:Array Edge} (d:Nat) (x:Operand):cE Tryz.prog call ops ⟨some d,.buildSlice 181 1 #[(0,x)],T,pos,eK,none⟩ st=X6 96 (st.ev x) (fun cs=>some ((st.new d (.row 56 96 1 cs)).put (some d) (.own d (st.aK d)))) (cE Tryz.prog call ops ⟨some d,.buildSlice 181 1 #[(0,x)],T,pos,eK,none⟩ st):=Gv aHG aQa (by rfl) (by decide) d x
theorem aQB (st:St) (x:AV):cY Tryz.prog st 236 (.v (.slice none 0 0)) x=yY 5 1 1 (aQ st x):=vB H7 x
theorem aQC (st:St) (s g:Nat) (x:AV):cY Tryz.prog st 236 (.own s g) x=yK 5 1 1 (st.heap s g) s g (aQ st x):=sG H7 s g x
theorem aQD {call:Nat->List AV->Option AV} {ops:Array Oper} {st:St} {T:Nat} {pos:String} {eK:Array Edge} (d:Nat) (x:Operand):cE Tryz.prog call ops ⟨some d,.buildSlice 236 1 #[(0,x)],T,pos,eK,none⟩ st=elV (st.ev x) (fun y=>some ((st.new d (.row 5 1 1 [.v y])).put (some d) (.own d (st.aK d)))) (cE Tryz.prog call ops ⟨some d,.buildSlice 236 1 #[(0,x)],T,pos,eK,none⟩ st):=MX H7 ze5 d x
theorem aQE (st:St) (x:AV):cY Tryz.prog st 262 (.v (.slice none 0 0)) x=yY 4 1 1 (aQ st x):=vB VK x
theorem aQF (st:St) (s g:Nat) (x:AV):cY Tryz.prog st 262 (.own s g) x=yK 4 1 1 (st.heap s g) s g (aQ st x):=sG VK s g x
theorem aQG {call:Nat->List AV->Option AV} {ops:Array Oper} {st:St} {T:Nat} {pos:String} {eK:Array Edge} (d:Nat) (x:Operand):cE Tryz.prog call ops ⟨some d,.buildSlice 262 1 #[(0,x)],T,pos,eK,none⟩ st=elV (st.ev x) (fun y=>some ((st.new d (.row 4 1 1 [.v y])).put (some d) (.own d (st.aK d)))) (cE Tryz.prog call ops ⟨some d,.buildSlice 262 1 #[(0,x)],T,pos,eK,none⟩ st):=MX VK ze4 d x
theorem aVi:bF Tryz.f21=true:=by kernel_rfl
theorem aUm:bF Tryz.f24=true:=by kernel_rfl
theorem aTI:sO Tryz.f25=true:=by kernel_rfl
theorem aT9:sO Tryz.f27=true:=by kernel_rfl
theorem aUY:bF Tryz.f28=true:=by kernel_rfl
theorem aRz:bF Tryz.f30=true:=by kernel_rfl
theorem aTD:bF Tryz.f32=true:=by kernel_rfl
theorem aRQ:bF Tryz.f34=true:=by kernel_rfl
theorem aTC:bF Tryz.f36=true:=by kernel_rfl
theorem aTH:bF Tryz.f37=true:=by kernel_rfl
theorem aSs:bF Tryz.f39=true:=by kernel_rfl
theorem aSp:bF Tryz.f40=true:=by kernel_rfl
theorem aUW:sO Tryz.f42=true:=by kernel_rfl
theorem aSG:bF Tryz.f44=true:=by kernel_rfl
theorem aTp:bF Tryz.f45=true:=by kernel_rfl
theorem aX5:bF Tryz.f46=true:=by kernel_rfl
theorem aRy:bF Tryz.f47=true:=by kernel_rfl
theorem aLZ:bF Tryz.f49=true:=by kernel_rfl
theorem aTJ:sO Tryz.f50=true:=by kernel_rfl
theorem aSv:bF Tryz.f52=true:=by kernel_rfl
theorem aSr:bF Tryz.f54=true:=by kernel_rfl
theorem aSx:sO Tryz.f59=true:=by kernel_rfl
theorem aSy:sO Tryz.f61=true:=by kernel_rfl
theorem aR1:bF Tryz.f64=true:=by kernel_rfl
theorem aSk:bF Tryz.f65=true:=by kernel_rfl
theorem aSw:bF Tryz.f67=true:=by kernel_rfl
theorem aSt:bF Tryz.f69=true:=by kernel_rfl
theorem aU5:sO Tryz.f71=true:=by kernel_rfl
theorem aTZ:bF Tryz.f72=true:=by kernel_rfl
theorem aTX:sO Tryz.f74=true:=by kernel_rfl
theorem aUl:sO Tryz.f75=true:=by kernel_rfl
theorem aL1:bF Tryz.f76=true:=by kernel_rfl
theorem aU1:bF Tryz.f77=true:=by kernel_rfl
theorem aUT:bF Tryz.f80=true:=by kernel_rfl
theorem aUX:bF Tryz.f82=true:=by kernel_rfl
theorem aTz:bF Tryz.f85=true:=by kernel_rfl
theorem aTA:bF Tryz.f86=true:=by kernel_rfl
theorem aX6:bF Tryz.f87=true:=by kernel_rfl
theorem aU4:bF Tryz.f88=true:=by kernel_rfl
theorem aRV:bF Tryz.f89=true:=by kernel_rfl
theorem aTB:bF Tryz.f91=true:=by kernel_rfl
theorem aTs:bF Tryz.f92=true:=by kernel_rfl
theorem aSd:bF Tryz.f97=true:=by kernel_rfl
theorem aSe:bF Tryz.f98=true:=by kernel_rfl
theorem aSg:bF Tryz.f99=true:=by kernel_rfl
theorem aMc:bF Tryz.f100=true:=by kernel_rfl
theorem aOD:bF Tryz.f101=true:=by kernel_rfl
theorem aNS:bF Tryz.f102=true:=by kernel_rfl
theorem aGU:bF Tryz.f103=true:=by kernel_rfl
theorem aO8:bF Tryz.f104=true:=by kernel_rfl
theorem aGT:bF Tryz.f105=true:=by kernel_rfl
theorem aMf:bF Tryz.f106=true:=by kernel_rfl
theorem aPa:bF Tryz.f107=true:=by kernel_rfl
theorem aGV:bF Tryz.f108=true:=by kernel_rfl
theorem aO0:bF Tryz.f109=true:=by kernel_rfl
theorem aNe:bF Tryz.f110=true:=by kernel_rfl
theorem aOm:bF Tryz.f111=true:=by kernel_rfl
theorem aMV:bF Tryz.f114=true:=by kernel_rfl
theorem aNb:bF Tryz.f117=true:=by kernel_rfl
theorem aMK:bF Tryz.f122=true:=by kernel_rfl
theorem aMM:bF Tryz.f128=true:=by kernel_rfl
theorem aGG:bF Tryz.f130=true:=by kernel_rfl
theorem aMZ:bF Tryz.f131=true:=by kernel_rfl
theorem aMI:bF Tryz.f137=true:=by kernel_rfl
theorem aOy:bF Tryz.f138=true:=by kernel_rfl
theorem aPe:bF Tryz.f139=true:=by kernel_rfl
theorem aHh:bF Tryz.f140=true:=by kernel_rfl
theorem aOT:bF Tryz.f141=true:=by kernel_rfl
theorem aOq:bF Tryz.f143=true:=by kernel_rfl
theorem aOM:bF Tryz.f144=true:=by kernel_rfl
theorem aL3:bF Tryz.f145=true:=by kernel_rfl
theorem aOC:bF Tryz.f146=true:=by kernel_rfl
theorem aOJ:bF Tryz.f147=true:=by kernel_rfl
theorem aHf:bF Tryz.f148=true:=by kernel_rfl
theorem aL5:bF Tryz.f149=true:=by kernel_rfl
theorem aMl:bF Tryz.f150=true:=by kernel_rfl
theorem aMj:bF Tryz.f151=true:=by kernel_rfl
theorem aL9:bF Tryz.f155=true:=by kernel_rfl
theorem aMa:bF Tryz.f156=true:=by kernel_rfl
theorem aL4:bF Tryz.f157=true:=by kernel_rfl
theorem aM7:bF Tryz.f158=true:=by kernel_rfl
theorem aGW:bF Tryz.f159=true:=by kernel_rfl
theorem aHb:bF Tryz.f160=true:=by kernel_rfl
theorem aOZ:bF Tryz.f161=true:=by kernel_rfl
theorem aOW:bF Tryz.f162=true:=by kernel_rfl
theorem aOR:bF Tryz.f163=true:=by kernel_rfl
theorem aHe:bF Tryz.f164=true:=by kernel_rfl
theorem aMu:bF Tryz.f165=true:=by kernel_rfl
theorem aOY:bF Tryz.f166=true:=by kernel_rfl
theorem aMU:bF Tryz.f169=true:=by kernel_rfl
theorem aMS:bF Tryz.f170=true:=by kernel_rfl
theorem aNa:bF Tryz.f172=true:=by kernel_rfl
theorem aGE:bF Tryz.f175=true:=by kernel_rfl
theorem aMP:bF Tryz.f176=true:=by kernel_rfl
theorem aOS:bF Tryz.f177=true:=by kernel_rfl
theorem aOA:bF Tryz.f178=true:=by kernel_rfl
theorem aNP:sO Tryz.f181=true:=by kernel_rfl
theorem aOo:bF Tryz.f182=true:=by kernel_rfl
theorem aOp:bF Tryz.f183=true:=by kernel_rfl
theorem aOk:sO Tryz.f184=true:=by kernel_rfl
theorem aOI:bF Tryz.f185=true:=by kernel_rfl
theorem aQH:bF Tryz.f186=true:=by kernel_rfl
theorem aL6:bF Tryz.f188=true:=by kernel_rfl
theorem aL8:bF Tryz.f189=true:=by kernel_rfl
theorem aHc:bF Tryz.f190=true:=by kernel_rfl
theorem aHd:bF Tryz.f191=true:=by kernel_rfl
theorem aMt:bF Tryz.f192=true:=by kernel_rfl
theorem aOX:bF Tryz.f193=true:=by kernel_rfl
theorem aOU:bF Tryz.f194=true:=by kernel_rfl
theorem aM9:sO Tryz.f195=true:=by kernel_rfl
theorem aMb:bF Tryz.f196=true:=by kernel_rfl
theorem aOz:bF Tryz.f197=true:=by kernel_rfl
theorem aNN:bF Tryz.f199=true:=by kernel_rfl
theorem aOj:bF Tryz.f200=true:=by kernel_rfl
theorem aN3:bF Tryz.f201=true:=by kernel_rfl
theorem aOv:sO Tryz.f202=true:=by kernel_rfl
theorem aOH:bF Tryz.f203=true:=by kernel_rfl
theorem aNH:bF Tryz.f204=true:=by kernel_rfl
theorem aNG:bF Tryz.f205=true:=by kernel_rfl
theorem aG8:bF Tryz.f206=true:=by kernel_rfl
theorem aNM:bF Tryz.f208=true:=by kernel_rfl
theorem aNl:bF Tryz.f209=true:=by kernel_rfl
theorem aOd:sO Tryz.f210=true:=by kernel_rfl
theorem aOf:sO Tryz.f211=true:=by kernel_rfl
theorem aOg:bF Tryz.f212=true:=by kernel_rfl
theorem aOh:sO Tryz.f213=true:=by kernel_rfl
theorem aOi:sO Tryz.f214=true:=by kernel_rfl
theorem aGS:bF Tryz.f215=true:=by kernel_rfl
theorem aN2:bF Tryz.f216=true:=by kernel_rfl
theorem aNh:bF Tryz.f217=true:=by kernel_rfl
theorem aNd:bF Tryz.f218=true:=by kernel_rfl
theorem aNF:bF Tryz.f219=true:=by kernel_rfl
theorem aNE:bF Tryz.f220=true:=by kernel_rfl
theorem aNC:bF Tryz.f221=true:=by kernel_rfl
theorem aMF:bF Tryz.f222=true:=by kernel_rfl
theorem aNu:bF Tryz.f223=true:=by kernel_rfl
theorem aNz:bF Tryz.f224=true:=by kernel_rfl
theorem aNJ:bF Tryz.f225=true:=by kernel_rfl
theorem aNW:bF Tryz.f226=true:=by kernel_rfl
theorem aOa:bF Tryz.f227=true:=by kernel_rfl
theorem aNX:sO Tryz.f228=true:=by kernel_rfl
theorem aOb:bF Tryz.f229=true:=by kernel_rfl
theorem aOc:bF Tryz.f230=true:=by kernel_rfl
theorem aGY:sO Tryz.f231=true:=by kernel_rfl
theorem aN1:bF Tryz.f232=true:=by kernel_rfl
theorem aMW:bF Tryz.f233=true:=by kernel_rfl
theorem aNk:bF Tryz.f234=true:=by kernel_rfl
theorem aNn:sO Tryz.f235=true:=by kernel_rfl
theorem aMz:bF Tryz.f236=true:=by kernel_rfl
theorem aMD:bF Tryz.f237=true:=by kernel_rfl
theorem aMA:bF Tryz.f238=true:=by kernel_rfl
theorem aNj:bF Tryz.f239=true:=by kernel_rfl
theorem aNm:bF Tryz.f240=true:=by kernel_rfl
theorem aNs:bF Tryz.f241=true:=by kernel_rfl
theorem aNt:bF Tryz.f242=true:=by kernel_rfl
theorem aNp:bF Tryz.f243=true:=by kernel_rfl
theorem aGM:bF Tryz.f244=true:=by kernel_rfl
theorem aMp:bF Tryz.f245=true:=by kernel_rfl
theorem aN8:bF Tryz.f246=true:=by kernel_rfl
theorem aMy:bF Tryz.f247=true:=by kernel_rfl
theorem aNo:bF Tryz.f248=true:=by kernel_rfl
theorem aNx:bF Tryz.f249=true:=by kernel_rfl
theorem aNi:bF Tryz.f250=true:=by kernel_rfl
theorem aMH:bF Tryz.f251=true:=by kernel_rfl
theorem aNv:bF Tryz.f252=true:=by kernel_rfl
end Go.Ab.Tryz
