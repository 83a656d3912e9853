/-
  Part 8 of the proof: an evaluator of programs, its soundness, and what functions of this program compute.
-/
import Derived.Test.YtmcjkemalibacaaGreatK7
import Derived.Test.YtmcjkemalibacaaGreatProg
import Derived.KernelRfl
set_option linter.all false
set_option maxRecDepth 20000
set_option maxHeartbeats 40000000
namespace Go.Ab.Tryz
open Classical Go.Proofs Go.Ab
theorem mixed:Tryz.prog.follows .mixedOrders=true:=by kernel_rfl
theorem ld3 (cs:List AV) (o:Nat):fD Tryz.prog 3 cs o=cs[o]?:=by
 have:fK Tryz.prog 3=some (false,1):=by kernel_rfl
 simp only[fD,this]
theorem ik3:intKind Tryz.prog 3=some .i64:=by kernel_rfl
theorem lk3:sU Tryz.prog 3=some 1:=by kernel_rfl
theorem ze3:dZ Tryz.prog 3=some [.int .i64 0]:=by kernel_rfl
theorem aQX (cs:List AV) (o:Nat):fD Tryz.prog 23 cs o=cs[o]?:=by
 have:fK Tryz.prog 23=some (false,1):=by kernel_rfl
 simp only[fD,this]
theorem aQY:intKind Tryz.prog 23=some .u64:=by kernel_rfl
theorem RY:sU Tryz.prog 23=some 1:=by kernel_rfl
theorem aGd:dZ Tryz.prog 23=some [.int .u64 0]:=by kernel_rfl
theorem aQZ:intKind Tryz.prog 61=some .u64:=by kernel_rfl
theorem aQ0:sU Tryz.prog 61=some 1:=by kernel_rfl
theorem aQ1:dZ Tryz.prog 61=some [.int .u64 0]:=by kernel_rfl
theorem ld5 (cs:List AV) (o:Nat):fD Tryz.prog 5 cs o=cs[o]?:=by
 have:fK Tryz.prog 5=some (false,1):=by kernel_rfl
 simp only[fD,this]
theorem ik5:intKind Tryz.prog 5=some .u8:=by kernel_rfl
theorem lk5:sU Tryz.prog 5=some 1:=by kernel_rfl
theorem ze5:dZ Tryz.prog 5=some [.int .u8 0]:=by kernel_rfl
theorem ik2:intKind Tryz.prog 2=some .i64:=by kernel_rfl
theorem lk2:sU Tryz.prog 2=some 1:=by kernel_rfl
theorem ze2:dZ Tryz.prog 2=some [.int .i64 0]:=by kernel_rfl
theorem aQ2:intKind Tryz.prog 64=some .i64:=by kernel_rfl
theorem aQ3:sU Tryz.prog 64=some 1:=by kernel_rfl
theorem aQ4:dZ Tryz.prog 64=some [.int .i64 0]:=by kernel_rfl
theorem ld4 (cs:List AV) (o:Nat):fD Tryz.prog 4 cs o=cs[o]?:=by
 have:fK Tryz.prog 4=some (false,1):=by kernel_rfl
 simp only[fD,this]
theorem lk4:sU Tryz.prog 4=some 1:=by kernel_rfl
theorem ze4:dZ Tryz.prog 4=some [.bool false]:=by kernel_rfl
theorem be4 (a b:Bool):fS Tryz.prog .eql 4 (.v (.bool a)) (.v (.bool b))=some (.v (.bool (a == b))):=by
 have:Tryz.prog.underlying 4=some .bool:=by kernel_rfl
 simp only[fS,this]
theorem aQ5 (cs:List AV) (o:Nat) (h:32≤cs.length-o):fD Tryz.prog 27 cs o=some (.agg (rd cs o 32)):=by
 have:fK Tryz.prog 27=some (true,32):=by kernel_rfl
 simp[fD,this,h]
theorem aJp:sU Tryz.prog 27=some 32:=by kernel_rfl
theorem aLL:dZ Tryz.prog 27=some sW:=by kernel_rfl
theorem aGe (a b:cM):uH Tryz.prog 27 (aZ a) (aZ b)=some (decide (a=b)):=qR (l:=Ff) (by kernel_rfl) (by kernel_rfl) (by kernel_rfl) (mL a b) (oI a b)
theorem aQ6 (a b:cM):fS Tryz.prog .eql 27 (.agg (aZ a)) (.agg (aZ b))=some (.v (.bool (decide (a=b)))):=by simp only[fS,aGe,Option.map_some]
theorem aQ7 (a b:cM):fS Tryz.prog .neq 27 (.agg (aZ a)) (.agg (aZ b))=some (.v (.bool (!(decide (a=b))))):=by simp only[fS,aGe,Option.map_some]
theorem aEY:jF Tryz.prog 27=some (32,1):=by kernel_rfl
theorem aQ8 (st:St) (parts:List (Nat × Operand)):iR Tryz.prog st 27 parts=if (parts.all fun p=>(st.ev p.2).jL)=true then (gM (fun i=>some (i * 1,1)) (aZ dK) (parts.map fun p=>(p.1,st.ev p.2))).map .agg else none:=iA (z:=sW) (by kernel_rfl) jG (Sp (by kernel_rfl))
theorem aQ9 (cs:List AV) (o:Nat) (h:4≤cs.length-o):fD Tryz.prog 33 cs o=some (.agg (rd cs o 4)):=by
 have:fK Tryz.prog 33=some (true,4):=by kernel_rfl
 simp[fD,this,h]
theorem aRa:sU Tryz.prog 33=some 4:=by kernel_rfl
theorem aRb:dZ Tryz.prog 33=some Yd:=by kernel_rfl
theorem aLM (a b:qX):uH Tryz.prog 33 (gF a) (gF b)=some (decide (a=b)):=qR (l:=XZ) (by kernel_rfl) (by kernel_rfl) (by kernel_rfl) (Lj a b) (Qt a b)
theorem aRc (a b:qX):fS Tryz.prog .neq 33 (.agg (gF a)) (.agg (gF b))=some (.v (.bool (!(decide (a=b))))):=by simp only[fS,aLM,Option.map_some]
theorem aI8:jF Tryz.prog 33=some (4,1):=by kernel_rfl
theorem aRd (st:St) (parts:List (Nat × Operand)):iR Tryz.prog st 33 parts=if (parts.all fun p=>(st.ev p.2).jL)=true then (gM (fun i=>some (i * 1,1)) (gF ED) (parts.map fun p=>(p.1,st.ev p.2))).map .agg else none:=iA (z:=Yd) (by kernel_rfl) jH (Sp (by kernel_rfl))
theorem aRe (cs:List AV) (o:Nat) (h:33≤cs.length-o):fD Tryz.prog 41 cs o=some (.agg (rd cs o 33)):=by
 have:fK Tryz.prog 41=some (true,33):=by kernel_rfl
 simp[fD,this,h]
theorem aRf:sU Tryz.prog 41=some 33:=by kernel_rfl
theorem aGf:aV Tryz.prog 41 0=some 0:=by kernel_rfl
theorem aGg:aV Tryz.prog 41 1=some 1:=by kernel_rfl
theorem aJo:dZ Tryz.prog 41=some Ck:=by kernel_rfl
theorem aGh (a b:fR):uH Tryz.prog 41 (bY a) (bY b)=some (decide (a=b)):=qR (l:=Sr) (by kernel_rfl) (by kernel_rfl) (by kernel_rfl) (sO a b) (mQ a b)
theorem aRg (a b:fR):fS Tryz.prog .eql 41 (.agg (bY a)) (.agg (bY b))=some (.v (.bool (decide (a=b)))):=by simp only[fS,aGh,Option.map_some]
theorem aRh (a b:fR):fS Tryz.prog .neq 41 (.agg (bY a)) (.agg (bY b))=some (.v (.bool (!(decide (a=b))))):=by simp only[fS,aGh,Option.map_some]
theorem aRi (st:St) (parts:List (Nat × Operand)):iR Tryz.prog st 41 parts=if (parts.all fun p=>(st.ev p.2).jL)=true then (gM (fun i=>([(0,1),(1,32)]:List (Nat × Nat))[i]?) (bY iM) (parts.map fun p=>(p.1,st.ev p.2))).map .agg else none:=iA (z:=Ck) (by kernel_rfl) Al (eY (by kernel_rfl))
theorem aRj (cs:List AV) (o:Nat) (h:66≤cs.length-o):fD Tryz.prog 72 cs o=some (.agg (rd cs o 66)):=by
 have:fK Tryz.prog 72=some (true,66):=by kernel_rfl
 simp[fD,this,h]
theorem aRk:sU Tryz.prog 72=some 66:=by kernel_rfl
theorem aGi:aV Tryz.prog 72 0=some 0:=by kernel_rfl
theorem aGj:aV Tryz.prog 72 1=some 33:=by kernel_rfl
theorem aRl:dZ Tryz.prog 72=some Oh:=by kernel_rfl
theorem aRm (st:St) (parts:List (Nat × Operand)):iR Tryz.prog st 72 parts=if (parts.all fun p=>(st.ev p.2).jL)=true then (gM (fun i=>([(0,33),(33,33)]:List (Nat × Nat))[i]?) (fI My) (parts.map fun p=>(p.1,st.ev p.2))).map .agg else none:=iA (z:=Oh) (by kernel_rfl) Qu (eY (by kernel_rfl))
theorem aRn (cs:List AV) (o:Nat) (h:238≤cs.length-o):fD Tryz.prog 74 cs o=some (.agg (rd cs o 238)):=by
 have:fK Tryz.prog 74=some (true,238):=by kernel_rfl
 simp[fD,this,h]
theorem SX:sU Tryz.prog 74=some 238:=by kernel_rfl
theorem aGk:aV Tryz.prog 74 0=some 0:=by kernel_rfl
theorem aGl:aV Tryz.prog 74 1=some 66:=by kernel_rfl
theorem aGm:aV Tryz.prog 74 2=some 67:=by kernel_rfl
theorem aGn:aV Tryz.prog 74 3=some 99:=by kernel_rfl
theorem aGo:aV Tryz.prog 74 4=some 131:=by kernel_rfl
theorem aGp:aV Tryz.prog 74 5=some 163:=by kernel_rfl
theorem aGq:aV Tryz.prog 74 6=some 167:=by kernel_rfl
theorem aGr:aV Tryz.prog 74 7=some 171:=by kernel_rfl
theorem aGs:aV Tryz.prog 74 8=some 204:=by kernel_rfl
theorem aGt:aV Tryz.prog 74 9=some 237:=by kernel_rfl
theorem aGu:dZ Tryz.prog 74=some Qx:=by kernel_rfl
theorem aGv (a b:Block):uH Tryz.prog 74 (aU a) (aU b)=some (decide (a=b)):=qR (l:=US) (by kernel_rfl) (by kernel_rfl) (by kernel_rfl) (Ss a b) (Yg a b)
theorem aRo (a b:Block):fS Tryz.prog .eql 74 (.agg (aU a)) (.agg (aU b))=some (.v (.bool (decide (a=b)))):=by simp only[fS,aGv,Option.map_some]
theorem aRp (a b:Block):fS Tryz.prog .neq 74 (.agg (aU a)) (.agg (aU b))=some (.v (.bool (!(decide (a=b))))):=by simp only[fS,aGv,Option.map_some]
theorem aRq (st:St) (parts:List (Nat × Operand)):iR Tryz.prog st 74 parts=if (parts.all fun p=>(st.ev p.2).jL)=true then (gM (fun i=>([(0,66),(66,1),(67,32),(99,32),(131,32),(163,4),(167,4),(171,33),(204,33),(237,1)]:List (Nat × Nat))[i]?) (aU fB) (parts.map fun p=>(p.1,st.ev p.2))).map .agg else none:=iA (z:=Qx) (by kernel_rfl) Ok (eY (by kernel_rfl))
theorem aRr (cs:List AV) (o:Nat) (h:240≤cs.length-o):fD Tryz.prog 76 cs o=some (.agg (rd cs o 240)):=by
 have:fK Tryz.prog 76=some (true,240):=by kernel_rfl
 simp[fD,this,h]
theorem aRs:sU Tryz.prog 76=some 240:=by kernel_rfl
theorem aGw:aV Tryz.prog 76 0=some 0:=by kernel_rfl
theorem aGx:aV Tryz.prog 76 1=some 238:=by kernel_rfl
theorem aGy:aV Tryz.prog 76 2=some 239:=by kernel_rfl
theorem aGz:dZ Tryz.prog 76=some Yi:=by kernel_rfl
theorem aLN (a b:Node):uH Tryz.prog 76 (fJ a) (fJ b)=some (decide (a=b)):=qR (l:=aEt) (by kernel_rfl) (by kernel_rfl) (by kernel_rfl) (Vj a b) (B7 a b)
theorem aRt (a b:Node):fS Tryz.prog .neq 76 (.agg (fJ a)) (.agg (fJ b))=some (.v (.bool (!(decide (a=b))))):=by simp only[fS,aLN,Option.map_some]
theorem aRu (st:St) (parts:List (Nat × Operand)):iR Tryz.prog st 76 parts=if (parts.all fun p=>(st.ev p.2).jL)=true then (gM (fun i=>([(0,238),(238,1),(239,1)]:List (Nat × Nat))[i]?) (fJ YC) (parts.map fun p=>(p.1,st.ev p.2))).map .agg else none:=iA (z:=Yi) (by kernel_rfl) HP (eY (by kernel_rfl))
theorem aRv (cs:List AV) (o:Nat) (h:1≤cs.length-o):fD Tryz.prog 50 cs o=some (.agg (rd cs o 1)):=by
 have:fK Tryz.prog 50=some (true,1):=by kernel_rfl
 simp[fD,this,h]
theorem aRw:sU Tryz.prog 50=some 1:=by kernel_rfl
theorem aGA:aV Tryz.prog 50 0=some 0:=by kernel_rfl
theorem aRx:dZ Tryz.prog 50=some [.slice none 0 0]:=by kernel_rfl
theorem aRy (st:St) (parts:List (Nat × Operand)):iR Tryz.prog st 50 parts=if (parts.all fun p=>(st.ev p.2).jL)=true then (gM (fun i=>([(0,1)]:List (Nat × Nat))[i]?) [.v (.slice none 0 0)] (parts.map fun p=>(p.1,st.ev p.2))).map .agg else none:=iA (z:=[.slice none 0 0]) (by kernel_rfl) rfl (eY (by kernel_rfl))
theorem aRz (cs:List AV) (o:Nat) (h:1≤cs.length-o):fD Tryz.prog 25 cs o=some (.agg (rd cs o 1)):=by
 have:fK Tryz.prog 25=some (true,1):=by kernel_rfl
 simp[fD,this,h]
theorem aRA:sU Tryz.prog 25=some 1:=by kernel_rfl
theorem aGB:aV Tryz.prog 25 0=some 0:=by kernel_rfl
theorem aRB:dZ Tryz.prog 25=some Iu:=by kernel_rfl
theorem aRC (st:St) (parts:List (Nat × Operand)):iR Tryz.prog st 25 parts=if (parts.all fun p=>(st.ev p.2).jL)=true then (gM (fun i=>([(0,1)]:List (Nat × Nat))[i]?) (iU Uo) (parts.map fun p=>(p.1,st.ev p.2))).map .agg else none:=iA (z:=Iu) (by kernel_rfl) Iv (eY (by kernel_rfl))
theorem aRD (cs:List AV) (o:Nat) (h:34≤cs.length-o):fD Tryz.prog 29 cs o=some (.agg (rd cs o 34)):=by
 have:fK Tryz.prog 29=some (true,34):=by kernel_rfl
 simp[fD,this,h]
theorem aRE:sU Tryz.prog 29=some 34:=by kernel_rfl
theorem aGC:aV Tryz.prog 29 0=some 0:=by kernel_rfl
theorem aGD:aV Tryz.prog 29 1=some 1:=by kernel_rfl
theorem aGE:aV Tryz.prog 29 2=some 2:=by kernel_rfl
theorem aRF:dZ Tryz.prog 29=some zD:=by kernel_rfl
theorem aLO (a b:eD):uH Tryz.prog 29 (bN a) (bN b)=some (decide (a=b)):=qR (l:=PF) (by kernel_rfl) (by kernel_rfl) (by kernel_rfl) (BJ a b) (HV a b)
theorem aRG (a b:eD):fS Tryz.prog .eql 29 (.agg (bN a)) (.agg (bN b))=some (.v (.bool (decide (a=b)))):=by simp only[fS,aLO,Option.map_some]
theorem aRH (st:St) (parts:List (Nat × Operand)):iR Tryz.prog st 29 parts=if (parts.all fun p=>(st.ev p.2).jL)=true then (gM (fun i=>([(0,1),(1,1),(2,32)]:List (Nat × Nat))[i]?) (bN zC) (parts.map fun p=>(p.1,st.ev p.2))).map .agg else none:=iA (z:=zD) (by kernel_rfl) Lo (eY (by kernel_rfl))
theorem aRI (cs:List AV) (o:Nat) (h:6≤cs.length-o):fD Tryz.prog 31 cs o=some (.agg (rd cs o 6)):=by
 have:fK Tryz.prog 31=some (true,6):=by kernel_rfl
 simp[fD,this,h]
theorem aRJ:sU Tryz.prog 31=some 6:=by kernel_rfl
theorem aGF:aV Tryz.prog 31 0=some 0:=by kernel_rfl
theorem aGG:aV Tryz.prog 31 1=some 1:=by kernel_rfl
theorem aGH:aV Tryz.prog 31 2=some 2:=by kernel_rfl
theorem aGI:aV Tryz.prog 31 3=some 3:=by kernel_rfl
theorem aGJ:aV Tryz.prog 31 4=some 4:=by kernel_rfl
theorem aGK:aV Tryz.prog 31 5=some 5:=by kernel_rfl
theorem aRK:dZ Tryz.prog 31=some Ov:=by kernel_rfl
theorem aLP (a b:lT):uH Tryz.prog 31 (fN a) (fN b)=some (decide (a=b)):=qR (l:=YG) (by kernel_rfl) (by kernel_rfl) (by kernel_rfl) (HX a b) (PG a b)
theorem aRL (a b:lT):fS Tryz.prog .neq 31 (.agg (fN a)) (.agg (fN b))=some (.v (.bool (!(decide (a=b))))):=by simp only[fS,aLP,Option.map_some]
theorem aRM (st:St) (parts:List (Nat × Operand)):iR Tryz.prog st 31 parts=if (parts.all fun p=>(st.ev p.2).jL)=true then (gM (fun i=>([(0,1),(1,1),(2,1),(3,1),(4,1),(5,1)]:List (Nat × Nat))[i]?) (fN HW) (parts.map fun p=>(p.1,st.ev p.2))).map .agg else none:=iA (z:=Ov) (by kernel_rfl) Re (eY (by kernel_rfl))
theorem aRN (cs:List AV) (o:Nat) (h:45≤cs.length-o):fD Tryz.prog 36 cs o=some (.agg (rd cs o 45)):=by
 have:fK Tryz.prog 36=some (true,45):=by kernel_rfl
 simp[fD,this,h]
theorem aRO:sU Tryz.prog 36=some 45:=by kernel_rfl
theorem aGL:aV Tryz.prog 36 0=some 0:=by kernel_rfl
theorem aGM:aV Tryz.prog 36 1=some 6:=by kernel_rfl
theorem aGN:aV Tryz.prog 36 2=some 7:=by kernel_rfl
theorem aGO:aV Tryz.prog 36 3=some 8:=by kernel_rfl
theorem aGP:aV Tryz.prog 36 4=some 12:=by kernel_rfl
theorem aGQ:aV Tryz.prog 36 5=some 44:=by kernel_rfl
theorem aRP:dZ Tryz.prog 36=some Oy:=by kernel_rfl
theorem aRQ (st:St) (parts:List (Nat × Operand)):iR Tryz.prog st 36 parts=if (parts.all fun p=>(st.ev p.2).jL)=true then (gM (fun i=>([(0,6),(6,1),(7,1),(8,4),(12,32),(44,1)]:List (Nat × Nat))[i]?) (bS nA) (parts.map fun p=>(p.1,st.ev p.2))).map .agg else none:=iA (z:=Oy) (by kernel_rfl) Rh (eY (by kernel_rfl))
theorem aLQ (cs:List AV) (o:Nat) (h:34≤cs.length-o):fD Tryz.prog 100 cs o=some (.agg (rd cs o 34)):=by
 have:fK Tryz.prog 100=some (true,34):=by kernel_rfl
 simp[fD,this,h]
theorem aDR:sU Tryz.prog 100=some 34:=by kernel_rfl
theorem aCG:aV Tryz.prog 100 0=some 0:=by kernel_rfl
theorem aCH:aV Tryz.prog 100 1=some 1:=by kernel_rfl
theorem aCI:aV Tryz.prog 100 2=some 2:=by kernel_rfl
theorem aEx:dZ Tryz.prog 100=some YH:=by kernel_rfl
theorem aEy (a b:kF):uH Tryz.prog 100 (jK a) (jK b)=some (decide (a=b)):=qR (l:=aEv) (by kernel_rfl) (by kernel_rfl) (by kernel_rfl) (VG a b) (C5 a b)
theorem aLR (a b:kF):fS Tryz.prog .neq 100 (.agg (jK a)) (.agg (jK b))=some (.v (.bool (!(decide (a=b))))):=by simp only[fS,aEy,Option.map_some]
theorem aLS (st:St) (parts:List (Nat × Operand)):iR Tryz.prog st 100 parts=if (parts.all fun p=>(st.ev p.2).jL)=true then (gM (fun i=>([(0,1),(1,1),(2,32)]:List (Nat × Nat))[i]?) (jK rU) (parts.map fun p=>(p.1,st.ev p.2))).map .agg else none:=iA (z:=YH) (by kernel_rfl) YI (eY (by kernel_rfl))
theorem aRR (cs:List AV) (o:Nat) (h:67≤cs.length-o):fD Tryz.prog 87 cs o=some (.agg (rd cs o 67)):=by
 have:fK Tryz.prog 87=some (true,67):=by kernel_rfl
 simp[fD,this,h]
theorem aRS:sU Tryz.prog 87=some 67:=by kernel_rfl
theorem aGR:aV Tryz.prog 87 0=some 0:=by kernel_rfl
theorem aGS:aV Tryz.prog 87 1=some 1:=by kernel_rfl
theorem aGT:aV Tryz.prog 87 2=some 33:=by kernel_rfl
theorem aGU:aV Tryz.prog 87 3=some 66:=by kernel_rfl
theorem aLT:dZ Tryz.prog 87=some Z3:=by kernel_rfl
theorem aRT (st:St) (parts:List (Nat × Operand)):iR Tryz.prog st 87 parts=if (parts.all fun p=>(st.ev p.2).jL)=true then (gM (fun i=>([(0,1),(1,32),(33,33),(66,1)]:List (Nat × Nat))[i]?) (gV Jb) (parts.map fun p=>(p.1,st.ev p.2))).map .agg else none:=iA (z:=Z3) (by kernel_rfl) VH (eY (by kernel_rfl))
theorem aLU (cs:List AV) (o:Nat) (h:35≤cs.length-o):fD Tryz.prog 186 cs o=some (.agg (rd cs o 35)):=by
 have:fK Tryz.prog 186=some (true,35):=by kernel_rfl
 simp[fD,this,h]
theorem aLV:sU Tryz.prog 186=some 35:=by kernel_rfl
theorem aCJ:aV Tryz.prog 186 0=some 0:=by kernel_rfl
theorem aCK:aV Tryz.prog 186 1=some 1:=by kernel_rfl
theorem aCL:aV Tryz.prog 186 2=some 2:=by kernel_rfl
theorem aCM:aV Tryz.prog 186 3=some 34:=by kernel_rfl
theorem aLW:dZ Tryz.prog 186=some Ri:=by kernel_rfl
theorem aLX (st:St) (parts:List (Nat × Operand)):iR Tryz.prog st 186 parts=if (parts.all fun p=>(st.ev p.2).jL)=true then (gM (fun i=>([(0,1),(1,1),(2,32),(34,1)]:List (Nat × Nat))[i]?) (gO IC) (parts.map fun p=>(p.1,st.ev p.2))).map .agg else none:=iA (z:=Ri) (by kernel_rfl) Yn (eY (by kernel_rfl))
theorem aLY (cs:List AV) (o:Nat) (h:70≤cs.length-o):fD Tryz.prog 188 cs o=some (.agg (rd cs o 70)):=by
 have:fK Tryz.prog 188=some (true,70):=by kernel_rfl
 simp[fD,this,h]
theorem aLZ:sU Tryz.prog 188=some 70:=by kernel_rfl
theorem aCN:aV Tryz.prog 188 0=some 0:=by kernel_rfl
theorem aCO:aV Tryz.prog 188 1=some 35:=by kernel_rfl
theorem aL0:dZ Tryz.prog 188=some De:=by kernel_rfl
theorem aL1 (st:St) (parts:List (Nat × Operand)):iR Tryz.prog st 188 parts=if (parts.all fun p=>(st.ev p.2).jL)=true then (gM (fun i=>([(0,35),(35,35)]:List (Nat × Nat))[i]?) (bV Rj) (parts.map fun p=>(p.1,st.ev p.2))).map .agg else none:=iA (z:=De) (by kernel_rfl) Hn (eY (by kernel_rfl))
theorem aL2 (cs:List AV) (o:Nat) (h:34≤cs.length-o):fD Tryz.prog 118 cs o=some (.agg (rd cs o 34)):=by
 have:fK Tryz.prog 118=some (true,34):=by kernel_rfl
 simp[fD,this,h]
theorem aL3:sU Tryz.prog 118=some 34:=by kernel_rfl
theorem aCP:aV Tryz.prog 118 0=some 0:=by kernel_rfl
theorem aCQ:aV Tryz.prog 118 1=some 33:=by kernel_rfl
theorem aEz:dZ Tryz.prog 118=some Yo:=by kernel_rfl
theorem aL4 (st:St) (parts:List (Nat × Operand)):iR Tryz.prog st 118 parts=if (parts.all fun p=>(st.ev p.2).jL)=true then (gM (fun i=>([(0,33),(33,1)]:List (Nat × Nat))[i]?) (cA iT) (parts.map fun p=>(p.1,st.ev p.2))).map .agg else none:=iA (z:=Yo) (by kernel_rfl) Yp (eY (by kernel_rfl))
theorem aRU (cs:List AV) (o:Nat) (h:35≤cs.length-o):fD Tryz.prog 63 cs o=some (.agg (rd cs o 35)):=by
 have:fK Tryz.prog 63=some (true,35):=by kernel_rfl
 simp[fD,this,h]
theorem aFs:sU Tryz.prog 63=some 35:=by kernel_rfl
theorem aGV:aV Tryz.prog 63 0=some 0:=by kernel_rfl
theorem aGW:aV Tryz.prog 63 1=some 1:=by kernel_rfl
theorem aGX:aV Tryz.prog 63 2=some 33:=by kernel_rfl
theorem aGY:aV Tryz.prog 63 3=some 34:=by kernel_rfl
theorem aBF:dZ Tryz.prog 63=some Cs:=by kernel_rfl
theorem aGZ (a b:Request):uH Tryz.prog 63 (bK a) (bK b)=some (decide (a=b)):=qR (l:=PR) (by kernel_rfl) (by kernel_rfl) (by kernel_rfl) (BW a b) (IG a b)
theorem aRV (a b:Request):fS Tryz.prog .eql 63 (.agg (bK a)) (.agg (bK b))=some (.v (.bool (decide (a=b)))):=by simp only[fS,aGZ,Option.map_some]
theorem aRW (a b:Request):fS Tryz.prog .neq 63 (.agg (bK a)) (.agg (bK b))=some (.v (.bool (!(decide (a=b))))):=by simp only[fS,aGZ,Option.map_some]
theorem aRX (st:St) (parts:List (Nat × Operand)):iR Tryz.prog st 63 parts=if (parts.all fun p=>(st.ev p.2).jL)=true then (gM (fun i=>([(0,1),(1,32),(33,1),(34,1)]:List (Nat × Nat))[i]?) (bK bW) (parts.map fun p=>(p.1,st.ev p.2))).map .agg else none:=iA (z:=Cs) (by kernel_rfl) Yr (eY (by kernel_rfl))
theorem aRY (cs:List AV) (o:Nat) (h:96≤cs.length-o):fD Tryz.prog 56 cs o=some (.agg (rd cs o 96)):=by
 have:fK Tryz.prog 56=some (true,96):=by kernel_rfl
 simp[fD,this,h]
theorem aRZ:sU Tryz.prog 56=some 96:=by kernel_rfl
theorem aG0:aV Tryz.prog 56 0=some 0:=by kernel_rfl
theorem aG1:aV Tryz.prog 56 1=some 32:=by kernel_rfl
theorem aG2:aV Tryz.prog 56 2=some 64:=by kernel_rfl
theorem aL5:dZ Tryz.prog 56=some Ho:=by kernel_rfl
theorem aL6 (a b:Command):uH Tryz.prog 56 (eG a) (eG b)=some (decide (a=b)):=qR (l:=PS) (by kernel_rfl) (by kernel_rfl) (by kernel_rfl) (BX a b) (II a b)
theorem aR0 (a b:Command):fS Tryz.prog .eql 56 (.agg (eG a)) (.agg (eG b))=some (.v (.bool (decide (a=b)))):=by simp only[fS,aL6,Option.map_some]
theorem aR1 (st:St) (parts:List (Nat × Operand)):iR Tryz.prog st 56 parts=if (parts.all fun p=>(st.ev p.2).jL)=true then (gM (fun i=>([(0,32),(32,32),(64,32)]:List (Nat × Nat))[i]?) (eG Yv) (parts.map fun p=>(p.1,st.ev p.2))).map .agg else none:=iA (z:=Ho) (by kernel_rfl) Lu (eY (by kernel_rfl))
theorem aR2 (cs:List AV) (o:Nat) (h:2≤cs.length-o):fD Tryz.prog 39 cs o=some (.agg (rd cs o 2)):=by
 have:fK Tryz.prog 39=some (true,2):=by kernel_rfl
 simp[fD,this,h]
theorem aR3:sU Tryz.prog 39=some 2:=by kernel_rfl
theorem aG3:aV Tryz.prog 39 0=some 0:=by kernel_rfl
theorem aG4:aV Tryz.prog 39 1=some 1:=by kernel_rfl
theorem aR4:dZ Tryz.prog 39=some Yy:=by kernel_rfl
theorem aR5 (st:St) (parts:List (Nat × Operand)):iR Tryz.prog st 39 parts=if (parts.all fun p=>(st.ev p.2).jL)=true then (gM (fun i=>([(0,1),(1,1)]:List (Nat × Nat))[i]?) (eZ Gq) (parts.map fun p=>(p.1,st.ev p.2))).map .agg else none:=iA (z:=Yy) (by kernel_rfl) Yz (eY (by kernel_rfl))
theorem aR6 (cs:List AV) (o:Nat) (h:66≤cs.length-o):fD Tryz.prog 43 cs o=some (.agg (rd cs o 66)):=by
 have:fK Tryz.prog 43=some (true,66):=by kernel_rfl
 simp[fD,this,h]
theorem aR7:sU Tryz.prog 43=some 66:=by kernel_rfl
theorem aG5:aV Tryz.prog 43 0=some 0:=by kernel_rfl
theorem aG6:aV Tryz.prog 43 1=some 33:=by kernel_rfl
theorem aR8:dZ Tryz.prog 43=some Dh:=by kernel_rfl
theorem aL7 (a b:kD):uH Tryz.prog 43 (eT a) (eT b)=some (decide (a=b)):=qR (l:=EE) (by kernel_rfl) (by kernel_rfl) (by kernel_rfl) (Za a b) (BY a b)
theorem aR9 (a b:kD):fS Tryz.prog .neq 43 (.agg (eT a)) (.agg (eT b))=some (.v (.bool (!(decide (a=b))))):=by simp only[fS,aL7,Option.map_some]
theorem aSa (st:St) (parts:List (Nat × Operand)):iR Tryz.prog st 43 parts=if (parts.all fun p=>(st.ev p.2).jL)=true then (gM (fun i=>([(0,33),(33,33)]:List (Nat × Nat))[i]?) (eT Ro) (parts.map fun p=>(p.1,st.ev p.2))).map .agg else none:=iA (z:=Dh) (by kernel_rfl) Hq (eY (by kernel_rfl))
theorem aSb:sU Tryz.prog 47=some 2:=by kernel_rfl
theorem aG7:aV Tryz.prog 47 0=some 0:=by kernel_rfl
theorem aG8:aV Tryz.prog 47 1=some 1:=by kernel_rfl
theorem aSc:dZ Tryz.prog 47=some Up:=by kernel_rfl
theorem aSd (cs:List AV) (o:Nat) (h:150≤cs.length-o):fD Tryz.prog 53 cs o=some (.agg (rd cs o 150)):=by
 have:fK Tryz.prog 53=some (true,150):=by kernel_rfl
 simp[fD,this,h]
theorem aSe:sU Tryz.prog 53=some 150:=by kernel_rfl
theorem aG9:aV Tryz.prog 53 0=some 0:=by kernel_rfl
theorem aHa:aV Tryz.prog 53 1=some 45:=by kernel_rfl
theorem aHb:aV Tryz.prog 53 2=some 47:=by kernel_rfl
theorem aHc:aV Tryz.prog 53 3=some 113:=by kernel_rfl
theorem aHd:aV Tryz.prog 53 4=some 115:=by kernel_rfl
theorem aHe:aV Tryz.prog 53 5=some 116:=by kernel_rfl
theorem aHf:aV Tryz.prog 53 6=some 117:=by kernel_rfl
theorem aHg:aV Tryz.prog 53 7=some 149:=by kernel_rfl
theorem aSf:dZ Tryz.prog 53=some Zd:=by kernel_rfl
theorem aSg (st:St) (parts:List (Nat × Operand)):iR Tryz.prog st 53 parts=if (parts.all fun p=>(st.ev p.2).jL)=true then (gM (fun i=>([(0,45),(45,2),(47,66),(113,2),(115,1),(116,1),(117,32),(149,1)]:List (Nat × Nat))[i]?) (aB eF) (parts.map fun p=>(p.1,st.ev p.2))).map .agg else none:=iA (z:=Zd) (by kernel_rfl) Ze (eY (by kernel_rfl))
theorem aSh (cs:List AV) (o:Nat) (h:252≤cs.length-o):fD Tryz.prog 58 cs o=some (.agg (rd cs o 252)):=by
 have:fK Tryz.prog 58=some (true,252):=by kernel_rfl
 simp[fD,this,h]
theorem aSi:sU Tryz.prog 58=some 252:=by kernel_rfl
theorem aHh:aV Tryz.prog 58 0=some 0:=by kernel_rfl
theorem aHi:aV Tryz.prog 58 1=some 150:=by kernel_rfl
theorem aHj:aV Tryz.prog 58 2=some 151:=by kernel_rfl
theorem aHk:aV Tryz.prog 58 3=some 152:=by kernel_rfl
theorem aHl:aV Tryz.prog 58 4=some 153:=by kernel_rfl
theorem aHm:aV Tryz.prog 58 5=some 154:=by kernel_rfl
theorem aHn:aV Tryz.prog 58 6=some 250:=by kernel_rfl
theorem aHo:aV Tryz.prog 58 7=some 251:=by kernel_rfl
theorem aSj:dZ Tryz.prog 58=some IN:=by kernel_rfl
theorem aSk (st:St) (parts:List (Nat × Operand)):iR Tryz.prog st 58 parts=if (parts.all fun p=>(st.ev p.2).jL)=true then (gM (fun i=>([(0,150),(150,1),(151,1),(152,1),(153,1),(154,96),(250,1),(251,1)]:List (Nat × Nat))[i]?) (aI gP) (parts.map fun p=>(p.1,st.ev p.2))).map .agg else none:=iA (z:=IN) (by kernel_rfl) PU (eY (by kernel_rfl))
theorem aL8 (cs:List AV) (o:Nat) (h:446≤cs.length-o):fD Tryz.prog 190 cs o=some (.agg (rd cs o 446)):=by
 have:fK Tryz.prog 190=some (true,446):=by kernel_rfl
 simp[fD,this,h]
theorem aL9:sU Tryz.prog 190=some 446:=by kernel_rfl
theorem aCR:aV Tryz.prog 190 0=some 0:=by kernel_rfl
theorem aCS:aV Tryz.prog 190 1=some 1:=by kernel_rfl
theorem aCT:aV Tryz.prog 190 2=some 239:=by kernel_rfl
theorem aCU:aV Tryz.prog 190 3=some 306:=by kernel_rfl
theorem aCV:aV Tryz.prog 190 4=some 376:=by kernel_rfl
theorem aCW:aV Tryz.prog 190 5=some 410:=by kernel_rfl
theorem aCX:aV Tryz.prog 190 6=some 444:=by kernel_rfl
theorem aCY:aV Tryz.prog 190 7=some 445:=by kernel_rfl
theorem aEA:dZ Tryz.prog 190=some aCF:=by kernel_rfl
theorem aMa (st:St) (parts:List (Nat × Operand)):iR Tryz.prog st 190 parts=if (parts.all fun p=>(st.ev p.2).jL)=true then (gM (fun i=>([(0,1),(1,238),(239,67),(306,70),(376,34),(410,34),(444,1),(445,1)]:List (Nat × Nat))[i]?) (kX yX) (parts.map fun p=>(p.1,st.ev p.2))).map .agg else none:=iA (z:=aCF) (by kernel_rfl) Z4 (eY (by kernel_rfl))
theorem aHp (cs:List AV):Kf Tryz.prog 41 0 (.agg cs)=cs[0]?:=UH (k:=1) (by kernel_rfl)
theorem Kj:dL Tryz.prog 22=some (3,1,8):=by kernel_rfl
theorem aCZ:jF Tryz.prog 22=none:=by kernel_rfl
theorem aSl (cs:List AV) (o:Nat):fD Tryz.prog 22 cs o=cs[o]?:=by
 have:fK Tryz.prog 22=some (false,1):=by kernel_rfl
 simp only[fD,this]
theorem aSm:sU Tryz.prog 22=some 1:=by kernel_rfl
theorem aSn:dZ Tryz.prog 22=some [.slice none 0 0]:=by kernel_rfl
theorem aSo (n:Nat) (cs:List AV) (h:cs≠[]):fS Tryz.prog .eql 22 (.sl n cs) (.v (.slice none 0 0))=some (.v (.bool false)):=by
 have:Tryz.prog.underlying 22=some (.slice 3):=by kernel_rfl
 cases cs with
 | nil=>exact absurd rfl h
 | cons c cs=>simp[fS,sE,this]
theorem aSp:fS Tryz.prog .eql 22 (.v (.slice none 0 0)) (.v (.slice none 0 0))=some (.v (.bool true)):=by
 have:Tryz.prog.underlying 22=some (.slice 3):=by kernel_rfl
 simp[fS,sE,this]
theorem VS:dL Tryz.prog 34=some (23,1,8):=by kernel_rfl
theorem aHq:jF Tryz.prog 34=none:=by kernel_rfl
theorem aSq (cs:List AV) (o:Nat):fD Tryz.prog 34 cs o=cs[o]?:=by
 have:fK Tryz.prog 34=some (false,1):=by kernel_rfl
 simp only[fD,this]
theorem aSr:sU Tryz.prog 34=some 1:=by kernel_rfl
theorem aSs:dZ Tryz.prog 34=some [.slice none 0 0]:=by kernel_rfl
theorem aSt (n:Nat) (cs:List AV) (h:cs≠[]):fS Tryz.prog .eql 34 (.sl n cs) (.v (.slice none 0 0))=some (.v (.bool false)):=by
 have:Tryz.prog.underlying 34=some (.slice 23):=by kernel_rfl
 cases cs with
 | nil=>exact absurd rfl h
 | cons c cs=>simp[fS,sE,this]
theorem aSu:fS Tryz.prog .eql 34 (.v (.slice none 0 0)) (.v (.slice none 0 0))=some (.v (.bool true)):=by
 have:Tryz.prog.underlying 34=some (.slice 23):=by kernel_rfl
 simp[fS,sE,this]
theorem C8:dL Tryz.prog 37=some (100,34,48):=by kernel_rfl
theorem aHr:jF Tryz.prog 37=none:=by kernel_rfl
theorem aSv (cs:List AV) (o:Nat):fD Tryz.prog 37 cs o=cs[o]?:=by
 have:fK Tryz.prog 37=some (false,1):=by kernel_rfl
 simp only[fD,this]
theorem aSw:sU Tryz.prog 37=some 1:=by kernel_rfl
theorem aSx:dZ Tryz.prog 37=some [.slice none 0 0]:=by kernel_rfl
theorem aSy (n:Nat) (cs:List AV) (h:cs≠[]):fS Tryz.prog .eql 37 (.sl n cs) (.v (.slice none 0 0))=some (.v (.bool false)):=by
 have:Tryz.prog.underlying 37=some (.slice 100):=by kernel_rfl
 cases cs with
 | nil=>exact absurd rfl h
 | cons c cs=>simp[fS,sE,this]
theorem aSz:fS Tryz.prog .eql 37 (.v (.slice none 0 0)) (.v (.slice none 0 0))=some (.v (.bool true)):=by
 have:Tryz.prog.underlying 37=some (.slice 100):=by kernel_rfl
 simp[fS,sE,this]
theorem Z5:dL Tryz.prog 44=some (87,67,104):=by kernel_rfl
theorem aMb:jF Tryz.prog 44=none:=by kernel_rfl
theorem aSA (cs:List AV) (o:Nat):fD Tryz.prog 44 cs o=cs[o]?:=by
 have:fK Tryz.prog 44=some (false,1):=by kernel_rfl
 simp only[fD,this]
theorem aSB:sU Tryz.prog 44=some 1:=by kernel_rfl
theorem aSC:dZ Tryz.prog 44=some [.slice none 0 0]:=by kernel_rfl
theorem oK:dL Tryz.prog 45=some (74,238,336):=by kernel_rfl
theorem aHs:jF Tryz.prog 45=none:=by kernel_rfl
theorem aSD (cs:List AV) (o:Nat):fD Tryz.prog 45 cs o=cs[o]?:=by
 have:fK Tryz.prog 45=some (false,1):=by kernel_rfl
 simp only[fD,this]
theorem aSE:sU Tryz.prog 45=some 1:=by kernel_rfl
theorem aSF:dZ Tryz.prog 45=some [.slice none 0 0]:=by kernel_rfl
theorem aSG (n:Nat) (cs:List AV) (h:cs≠[]):fS Tryz.prog .eql 45 (.sl n cs) (.v (.slice none 0 0))=some (.v (.bool false)):=by
 have:Tryz.prog.underlying 45=some (.slice 74):=by kernel_rfl
 cases cs with
 | nil=>exact absurd rfl h
 | cons c cs=>simp[fS,sE,this]
theorem aSH:fS Tryz.prog .eql 45 (.v (.slice none 0 0)) (.v (.slice none 0 0))=some (.v (.bool true)):=by
 have:Tryz.prog.underlying 45=some (.slice 74):=by kernel_rfl
 simp[fS,sE,this]
theorem PX:dL Tryz.prog 48=some (76,240,352):=by kernel_rfl
theorem aHt:jF Tryz.prog 48=none:=by kernel_rfl
theorem aSI (cs:List AV) (o:Nat):fD Tryz.prog 48 cs o=cs[o]?:=by
 have:fK Tryz.prog 48=some (false,1):=by kernel_rfl
 simp only[fD,this]
theorem aSJ:sU Tryz.prog 48=some 1:=by kernel_rfl
theorem aSK:dZ Tryz.prog 48=some [.slice none 0 0]:=by kernel_rfl
theorem aSL (n:Nat) (cs:List AV) (h:cs≠[]):fS Tryz.prog .eql 48 (.sl n cs) (.v (.slice none 0 0))=some (.v (.bool false)):=by
 have:Tryz.prog.underlying 48=some (.slice 76):=by kernel_rfl
 cases cs with
 | nil=>exact absurd rfl h
 | cons c cs=>simp[fS,sE,this]
theorem JB:dL Tryz.prog 51=some (118,34,64):=by kernel_rfl
theorem aMc:jF Tryz.prog 51=none:=by kernel_rfl
theorem aSM (cs:List AV) (o:Nat):fD Tryz.prog 51 cs o=cs[o]?:=by
 have:fK Tryz.prog 51=some (false,1):=by kernel_rfl
 simp only[fD,this]
theorem aSN:sU Tryz.prog 51=some 1:=by kernel_rfl
theorem aSO:dZ Tryz.prog 51=some [.slice none 0 0]:=by kernel_rfl
theorem Bq:dL Tryz.prog 54=some (63,35,56):=by kernel_rfl
theorem aHu:jF Tryz.prog 54=none:=by kernel_rfl
theorem aSP (cs:List AV) (o:Nat):fD Tryz.prog 54 cs o=cs[o]?:=by
 have:fK Tryz.prog 54=some (false,1):=by kernel_rfl
 simp only[fD,this]
theorem aSQ:sU Tryz.prog 54=some 1:=by kernel_rfl
theorem aSR:dZ Tryz.prog 54=some [.slice none 0 0]:=by kernel_rfl
theorem aSS (n:Nat) (cs:List AV) (h:cs≠[]):fS Tryz.prog .eql 54 (.sl n cs) (.v (.slice none 0 0))=some (.v (.bool false)):=by
 have:Tryz.prog.underlying 54=some (.slice 63):=by kernel_rfl
 cases cs with
 | nil=>exact absurd rfl h
 | cons c cs=>simp[fS,sE,this]
theorem aST:fS Tryz.prog .eql 54 (.v (.slice none 0 0)) (.v (.slice none 0 0))=some (.v (.bool true)):=by
 have:Tryz.prog.underlying 54=some (.slice 63):=by kernel_rfl
 simp[fS,sE,this]
theorem aC0:dL Tryz.prog 70=some (27,32,32):=by kernel_rfl
theorem aMd:jF Tryz.prog 70=none:=by kernel_rfl
theorem aSU:sU Tryz.prog 70=some 1:=by kernel_rfl
theorem aSV:dZ Tryz.prog 70=some [.slice none 0 0]:=by kernel_rfl
theorem I6:dL Tryz.prog 109=some (41,33,40):=by kernel_rfl
theorem aEB:jF Tryz.prog 109=none:=by kernel_rfl
theorem aMe:sU Tryz.prog 109=some 1:=by kernel_rfl
theorem aMf:dZ Tryz.prog 109=some [.slice none 0 0]:=by kernel_rfl
theorem YJ:dL Tryz.prog 124=some (190,446,720):=by kernel_rfl
theorem aMg:jF Tryz.prog 124=none:=by kernel_rfl
theorem aMh:sU Tryz.prog 124=some 1:=by kernel_rfl
theorem aMi:dZ Tryz.prog 124=some [.slice none 0 0]:=by kernel_rfl
theorem aEC:dL Tryz.prog 181=some (56,96,96):=by kernel_rfl
theorem aMj:jF Tryz.prog 181=none:=by kernel_rfl
theorem aMk:sU Tryz.prog 181=some 1:=by kernel_rfl
theorem aMl:dZ Tryz.prog 181=some [.slice none 0 0]:=by kernel_rfl
theorem YK:dL Tryz.prog 236=some (5,1,1):=by kernel_rfl
theorem aMm:jF Tryz.prog 236=none:=by kernel_rfl
theorem aMn:sU Tryz.prog 236=some 1:=by kernel_rfl
theorem aMo:dZ Tryz.prog 236=some [.slice none 0 0]:=by kernel_rfl
theorem PY:dL Tryz.prog 262=some (4,1,1):=by kernel_rfl
theorem aED:jF Tryz.prog 262=none:=by kernel_rfl
theorem aMp:sU Tryz.prog 262=some 1:=by kernel_rfl
theorem aMq:dZ Tryz.prog 262=some [.slice none 0 0]:=by kernel_rfl
theorem aSW {call:Nat→List AV→Option AV} {ops:Array Oper} {st:St} {T:Nat} {pos:String} {eN:Array Edge} (d:Nat):bZ Tryz.prog call ops ⟨some d,.buildSlice 22 0 #[],T,pos,eN,none⟩ st=some ((st.new d (.row 3 1 0 [])).put (some d) (.own d (st.aQ d))):=Qz Kj ze3 d
theorem aSX (st:St) (x:AV):dC Tryz.prog st 34 (.v (.slice none 0 0)) x=xL 23 1 8 (aR st x):=uB VS x
theorem aSY (st:St) (s g:Nat) (x:AV):dC Tryz.prog st 34 (.own s g) x=wZ 23 1 8 (st.heap s g) s g (aR st x):=sD VS s g x
theorem aSZ (st:St) (s g:Nat) (kk:IntKind) (i:Int):bD Tryz.prog st 34 (.own s g) (.v (.int kk i))=OK 23 1 (st.heap s g) s g i:=Om aHq VS s g kk i
theorem aS0 {call:Nat→List AV→Option AV} {ops:Array Oper} {st:St} {T:Nat} {pos:String} {eN:Array Edge} (d:Nat):bZ Tryz.prog call ops ⟨some d,.buildSlice 34 0 #[],T,pos,eN,none⟩ st=some ((st.new d (.row 23 1 0 [])).put (some d) (.own d (st.aQ d))):=Qz VS aGd d
theorem aS1 {call:Nat→List AV→Option AV} {ops:Array Oper} {st:St} {T:Nat} {pos:String} {eN:Array Edge} (d:Nat) (x:Operand):bZ Tryz.prog call ops ⟨some d,.buildSlice 34 1 #[(0,x)],T,pos,eN,none⟩ st=elV (st.ev x) (fun y=>some ((st.new d (.row 23 1 1 [.v y])).put (some d) (.own d (st.aQ d)))) (bZ Tryz.prog call ops ⟨some d,.buildSlice 34 1 #[(0,x)],T,pos,eN,none⟩ st):=HQ VS aGd d x
theorem aS2 (st:St) (x:AV):dC Tryz.prog st 37 (.v (.slice none 0 0)) x=xL 100 34 48 (aR st x):=uB C8 x
theorem aS3 (st:St) (s g:Nat) (x:AV):dC Tryz.prog st 37 (.own s g) x=wZ 100 34 48 (st.heap s g) s g (aR st x):=sD C8 s g x
theorem aS4 (st:St) (s g:Nat) (kk:IntKind) (i:Int):bD Tryz.prog st 37 (.own s g) (.v (.int kk i))=OK 100 34 (st.heap s g) s g i:=Om aHr C8 s g kk i
theorem aS5 {call:Nat→List AV→Option AV} {ops:Array Oper} {st:St} {T:Nat} {pos:String} {eN:Array Edge} (d:Nat):bZ Tryz.prog call ops ⟨some d,.buildSlice 37 0 #[],T,pos,eN,none⟩ st=some ((st.new d (.row 100 34 0 [])).put (some d) (.own d (st.aQ d))):=Qz C8 aEx d
theorem aS6 (st:St) (x:AV):dC Tryz.prog st 44 (.v (.slice none 0 0)) x=xL 87 67 104 (aR st x):=uB Z5 x
theorem aS7 (st:St) (s g:Nat) (x:AV):dC Tryz.prog st 44 (.own s g) x=wZ 87 67 104 (st.heap s g) s g (aR st x):=sD Z5 s g x
theorem aS8 {call:Nat→List AV→Option AV} {ops:Array Oper} {st:St} {T:Nat} {pos:String} {eN:Array Edge} (d:Nat) (x:Operand):bZ Tryz.prog call ops ⟨some d,.buildSlice 44 1 #[(0,x)],T,pos,eN,none⟩ st=G4 67 (st.ev x) (fun cs=>some ((st.new d (.row 87 67 1 cs)).put (some d) (.own d (st.aQ d)))) (bZ Tryz.prog call ops ⟨some d,.buildSlice 44 1 #[(0,x)],T,pos,eN,none⟩ st):=Ep Z5 aLT (by rfl) (by decide) d x
theorem aS9 (st:St) (x:AV):dC Tryz.prog st 45 (.v (.slice none 0 0)) x=xL 74 238 336 (aR st x):=uB oK x
theorem aTa (st:St) (s g:Nat) (x:AV):dC Tryz.prog st 45 (.own s g) x=wZ 74 238 336 (st.heap s g) s g (aR st x):=sD oK s g x
theorem aTb (st:St) (s g:Nat) (kk:IntKind) (i:Int):bD Tryz.prog st 45 (.own s g) (.v (.int kk i))=OK 74 238 (st.heap s g) s g i:=Om aHs oK s g kk i
theorem aTc {call:Nat→List AV→Option AV} {ops:Array Oper} {st:St} {T:Nat} {pos:String} {eN:Array Edge} (d:Nat):bZ Tryz.prog call ops ⟨some d,.buildSlice 45 0 #[],T,pos,eN,none⟩ st=some ((st.new d (.row 74 238 0 [])).put (some d) (.own d (st.aQ d))):=Qz oK aGu d
theorem aTd {call:Nat→List AV→Option AV} {ops:Array Oper} {st:St} {T:Nat} {pos:String} {eN:Array Edge} (d:Nat) (x:Operand):bZ Tryz.prog call ops ⟨some d,.buildSlice 45 1 #[(0,x)],T,pos,eN,none⟩ st=G4 238 (st.ev x) (fun cs=>some ((st.new d (.row 74 238 1 cs)).put (some d) (.own d (st.aQ d)))) (bZ Tryz.prog call ops ⟨some d,.buildSlice 45 1 #[(0,x)],T,pos,eN,none⟩ st):=Ep oK aGu (by rfl) (by decide) d x
theorem aTe {call:Nat→List AV→Option AV} {ops:Array Oper} {st:St} {T:Nat} {pos:String} {eN:Array Edge} (d:Nat):bZ Tryz.prog call ops ⟨some d,.buildSlice 48 0 #[],T,pos,eN,none⟩ st=some ((st.new d (.row 76 240 0 [])).put (some d) (.own d (st.aQ d))):=Qz PX aGz d
theorem aTf (st:St) (x:AV):dC Tryz.prog st 51 (.v (.slice none 0 0)) x=xL 118 34 64 (aR st x):=uB JB x
theorem aTg (st:St) (s g:Nat) (x:AV):dC Tryz.prog st 51 (.own s g) x=wZ 118 34 64 (st.heap s g) s g (aR st x):=sD JB s g x
theorem aTh {call:Nat→List AV→Option AV} {ops:Array Oper} {st:St} {T:Nat} {pos:String} {eN:Array Edge} (d:Nat) (x:Operand):bZ Tryz.prog call ops ⟨some d,.buildSlice 51 1 #[(0,x)],T,pos,eN,none⟩ st=G4 34 (st.ev x) (fun cs=>some ((st.new d (.row 118 34 1 cs)).put (some d) (.own d (st.aQ d)))) (bZ Tryz.prog call ops ⟨some d,.buildSlice 51 1 #[(0,x)],T,pos,eN,none⟩ st):=Ep JB aEz (by rfl) (by decide) d x
theorem aTi (st:St) (x:AV):dC Tryz.prog st 54 (.v (.slice none 0 0)) x=xL 63 35 56 (aR st x):=uB Bq x
theorem aTj (st:St) (s g:Nat) (x:AV):dC Tryz.prog st 54 (.own s g) x=wZ 63 35 56 (st.heap s g) s g (aR st x):=sD Bq s g x
theorem aTk (st:St) (s g:Nat) (kk:IntKind) (i:Int):bD Tryz.prog st 54 (.own s g) (.v (.int kk i))=OK 63 35 (st.heap s g) s g i:=Om aHu Bq s g kk i
theorem aTl {call:Nat→List AV→Option AV} {ops:Array Oper} {st:St} {T:Nat} {pos:String} {eN:Array Edge} (d:Nat):bZ Tryz.prog call ops ⟨some d,.buildSlice 54 0 #[],T,pos,eN,none⟩ st=some ((st.new d (.row 63 35 0 [])).put (some d) (.own d (st.aQ d))):=Qz Bq aBF d
theorem aTm {call:Nat→List AV→Option AV} {ops:Array Oper} {st:St} {T:Nat} {pos:String} {eN:Array Edge} (d:Nat) (x:Operand):bZ Tryz.prog call ops ⟨some d,.buildSlice 54 1 #[(0,x)],T,pos,eN,none⟩ st=G4 35 (st.ev x) (fun cs=>some ((st.new d (.row 63 35 1 cs)).put (some d) (.own d (st.aQ d)))) (bZ Tryz.prog call ops ⟨some d,.buildSlice 54 1 #[(0,x)],T,pos,eN,none⟩ st):=Ep Bq aBF (by rfl) (by decide) d x
theorem aTn (st:St) (s g:Nat) (x:AV):dC Tryz.prog st 70 (.own s g) x=wZ 27 32 32 (st.heap s g) s g (aR st x):=sD aC0 s g x
theorem aTo {call:Nat→List AV→Option AV} {ops:Array Oper} {st:St} {T:Nat} {pos:String} {eN:Array Edge} (d:Nat) (x:Operand):bZ Tryz.prog call ops ⟨some d,.buildSlice 70 1 #[(0,x)],T,pos,eN,none⟩ st=G4 32 (st.ev x) (fun cs=>some ((st.new d (.row 27 32 1 cs)).put (some d) (.own d (st.aQ d)))) (bZ Tryz.prog call ops ⟨some d,.buildSlice 70 1 #[(0,x)],T,pos,eN,none⟩ st):=Ep aC0 aLL (by rfl) (by decide) d x
theorem aMr (st:St) (s g:Nat) (kk:IntKind) (i:Int):bD Tryz.prog st 109 (.own s g) (.v (.int kk i))=OK 41 33 (st.heap s g) s g i:=Om aEB I6 s g kk i
theorem aMs (st:St) (x:AV):dC Tryz.prog st 124 (.v (.slice none 0 0)) x=xL 190 446 720 (aR st x):=uB YJ x
theorem aMt (st:St) (s g:Nat) (x:AV):dC Tryz.prog st 124 (.own s g) x=wZ 190 446 720 (st.heap s g) s g (aR st x):=sD YJ s g x
theorem aMu {call:Nat→List AV→Option AV} {ops:Array Oper} {st:St} {T:Nat} {pos:String} {eN:Array Edge} (d:Nat) (x:Operand):bZ Tryz.prog call ops ⟨some d,.buildSlice 124 1 #[(0,x)],T,pos,eN,none⟩ st=G4 446 (st.ev x) (fun cs=>some ((st.new d (.row 190 446 1 cs)).put (some d) (.own d (st.aQ d)))) (bZ Tryz.prog call ops ⟨some d,.buildSlice 124 1 #[(0,x)],T,pos,eN,none⟩ st):=Ep YJ aEA (by rfl) (by decide) d x
theorem aMv {call:Nat→List AV→Option AV} {ops:Array Oper} {st:St} {T:Nat} {pos:String} {eN:Array Edge} (d:Nat) (x:Operand):bZ Tryz.prog call ops ⟨some d,.buildSlice 181 1 #[(0,x)],T,pos,eN,none⟩ st=G4 96 (st.ev x) (fun cs=>some ((st.new d (.row 56 96 1 cs)).put (some d) (.own d (st.aQ d)))) (bZ Tryz.prog call ops ⟨some d,.buildSlice 181 1 #[(0,x)],T,pos,eN,none⟩ st):=Ep aEC aL5 (by rfl) (by decide) d x
theorem aMw (st:St) (x:AV):dC Tryz.prog st 236 (.v (.slice none 0 0)) x=xL 5 1 1 (aR st x):=uB YK x
theorem aMx (st:St) (s g:Nat) (x:AV):dC Tryz.prog st 236 (.own s g) x=wZ 5 1 1 (st.heap s g) s g (aR st x):=sD YK s g x
theorem aMy {call:Nat→List AV→Option AV} {ops:Array Oper} {st:St} {T:Nat} {pos:String} {eN:Array Edge} (d:Nat) (x:Operand):bZ Tryz.prog call ops ⟨some d,.buildSlice 236 1 #[(0,x)],T,pos,eN,none⟩ st=elV (st.ev x) (fun y=>some ((st.new d (.row 5 1 1 [.v y])).put (some d) (.own d (st.aQ d)))) (bZ Tryz.prog call ops ⟨some d,.buildSlice 236 1 #[(0,x)],T,pos,eN,none⟩ st):=HQ YK ze5 d x
theorem aMz (st:St) (x:AV):dC Tryz.prog st 262 (.v (.slice none 0 0)) x=xL 4 1 1 (aR st x):=uB PY x
theorem aMA (st:St) (s g:Nat) (x:AV):dC Tryz.prog st 262 (.own s g) x=wZ 4 1 1 (st.heap s g) s g (aR st x):=sD PY s g x
theorem aMB {call:Nat→List AV→Option AV} {ops:Array Oper} {st:St} {T:Nat} {pos:String} {eN:Array Edge} (d:Nat) (x:Operand):bZ Tryz.prog call ops ⟨some d,.buildSlice 262 1 #[(0,x)],T,pos,eN,none⟩ st=elV (st.ev x) (fun y=>some ((st.new d (.row 4 1 1 [.v y])).put (some d) (.own d (st.aQ d)))) (bZ Tryz.prog call ops ⟨some d,.buildSlice 262 1 #[(0,x)],T,pos,eN,none⟩ st):=HQ PY ze4 d x
theorem ok3:bH Tryz.f3=true:=by kernel_rfl
theorem aPV:bH Tryz.f24=true:=by kernel_rfl
theorem aPo:tL Tryz.f25=true:=by kernel_rfl
theorem aLv:tL Tryz.f26=true:=by kernel_rfl
theorem aPK:tL Tryz.f27=true:=by kernel_rfl
theorem aLx:bH Tryz.f28=true:=by kernel_rfl
theorem aQC:bH Tryz.f29=true:=by kernel_rfl
theorem aNj:bH Tryz.f30=true:=by kernel_rfl
theorem aPj:bH Tryz.f32=true:=by kernel_rfl
theorem aNz:bH Tryz.f34=true:=by kernel_rfl
theorem aPi:bH Tryz.f36=true:=by kernel_rfl
theorem aPn:bH Tryz.f37=true:=by kernel_rfl
theorem aN8:bH Tryz.f39=true:=by kernel_rfl
theorem aN5:bH Tryz.f40=true:=by kernel_rfl
theorem aLw:tL Tryz.f42=true:=by kernel_rfl
theorem aOm:bH Tryz.f44=true:=by kernel_rfl
theorem aO5:bH Tryz.f45=true:=by kernel_rfl
theorem aTp:bH Tryz.f46=true:=by kernel_rfl
theorem aTq:bH Tryz.f47=true:=by kernel_rfl
theorem aMC:bH Tryz.f49=true:=by kernel_rfl
theorem aPp:tL Tryz.f50=true:=by kernel_rfl
theorem aOb:bH Tryz.f52=true:=by kernel_rfl
theorem aN7:bH Tryz.f54=true:=by kernel_rfl
theorem aOd:tL Tryz.f59=true:=by kernel_rfl
theorem aOe:tL Tryz.f61=true:=by kernel_rfl
theorem aNF:bH Tryz.f64=true:=by kernel_rfl
theorem aN0:bH Tryz.f65=true:=by kernel_rfl
theorem aOc:bH Tryz.f67=true:=by kernel_rfl
theorem aN9:bH Tryz.f69=true:=by kernel_rfl
theorem aPD:bH Tryz.f72=true:=by kernel_rfl
theorem aPC:tL Tryz.f74=true:=by kernel_rfl
theorem aPU:tL Tryz.f75=true:=by kernel_rfl
theorem aMD:bH Tryz.f76=true:=by kernel_rfl
theorem aQw:bH Tryz.f77=true:=by kernel_rfl
theorem aQv:bH Tryz.f78=true:=by kernel_rfl
theorem aQu:bH Tryz.f79=true:=by kernel_rfl
theorem aQq:bH Tryz.f80=true:=by kernel_rfl
theorem aQp:bH Tryz.f81=true:=by kernel_rfl
theorem aQx:bH Tryz.f82=true:=by kernel_rfl
theorem aQA:bH Tryz.f83=true:=by kernel_rfl
theorem aPf:bH Tryz.f85=true:=by kernel_rfl
theorem aPg:bH Tryz.f86=true:=by kernel_rfl
theorem aTr:bH Tryz.f87=true:=by kernel_rfl
theorem aPh:bH Tryz.f91=true:=by kernel_rfl
theorem aO8:bH Tryz.f92=true:=by kernel_rfl
theorem aNT:bH Tryz.f97=true:=by kernel_rfl
theorem aNU:bH Tryz.f98=true:=by kernel_rfl
theorem aNW:bH Tryz.f99=true:=by kernel_rfl
theorem aIC:bH Tryz.f100=true:=by kernel_rfl
theorem aKW:bH Tryz.f101=true:=by kernel_rfl
theorem aKd:bH Tryz.f102=true:=by kernel_rfl
theorem aD0:bH Tryz.f103=true:=by kernel_rfl
theorem aLp:bH Tryz.f104=true:=by kernel_rfl
theorem aDZ:bH Tryz.f105=true:=by kernel_rfl
theorem aDE:bH Tryz.f106=true:=by kernel_rfl
theorem aLs:bH Tryz.f107=true:=by kernel_rfl
theorem aD1:bH Tryz.f108=true:=by kernel_rfl
theorem aLh:bH Tryz.f109=true:=by kernel_rfl
theorem aJy:bH Tryz.f110=true:=by kernel_rfl
theorem aKH:bH Tryz.f111=true:=by kernel_rfl
theorem aJg:bH Tryz.f114=true:=by kernel_rfl
theorem aJv:bH Tryz.f117=true:=by kernel_rfl
theorem aI6:bH Tryz.f122=true:=by kernel_rfl
theorem aI7:bH Tryz.f128=true:=by kernel_rfl
theorem aDN:bH Tryz.f130=true:=by kernel_rfl
theorem aJk:bH Tryz.f131=true:=by kernel_rfl
theorem aI4:bH Tryz.f137=true:=by kernel_rfl
theorem aKL:bH Tryz.f143=true:=by kernel_rfl
theorem aK6:bH Tryz.f144=true:=by kernel_rfl
theorem aIs:bH Tryz.f145=true:=by kernel_rfl
theorem aKU:bH Tryz.f146=true:=by kernel_rfl
theorem aK2:bH Tryz.f147=true:=by kernel_rfl
theorem aEl:bH Tryz.f148=true:=by kernel_rfl
theorem aIu:bH Tryz.f149=true:=by kernel_rfl
theorem aIz:bH Tryz.f155=true:=by kernel_rfl
theorem aIA:bH Tryz.f156=true:=by kernel_rfl
theorem aIt:bH Tryz.f157=true:=by kernel_rfl
theorem aJr:bH Tryz.f158=true:=by kernel_rfl
theorem aD2:bH Tryz.f159=true:=by kernel_rfl
theorem aEh:bH Tryz.f160=true:=by kernel_rfl
theorem aLg:bH Tryz.f161=true:=by kernel_rfl
theorem aLd:bH Tryz.f162=true:=by kernel_rfl
theorem aLa:bH Tryz.f163=true:=by kernel_rfl
theorem aEk:bH Tryz.f164=true:=by kernel_rfl
theorem aIR:bH Tryz.f165=true:=by kernel_rfl
theorem aLf:bH Tryz.f166=true:=by kernel_rfl
theorem aJf:bH Tryz.f169=true:=by kernel_rfl
theorem aJd:bH Tryz.f170=true:=by kernel_rfl
theorem aJu:bH Tryz.f172=true:=by kernel_rfl
theorem aDL:bH Tryz.f175=true:=by kernel_rfl
theorem aJa:bH Tryz.f176=true:=by kernel_rfl
theorem aKa:tL Tryz.f181=true:=by kernel_rfl
theorem aKJ:bH Tryz.f182=true:=by kernel_rfl
theorem aKK:bH Tryz.f183=true:=by kernel_rfl
theorem aKF:tL Tryz.f184=true:=by kernel_rfl
theorem aK1:bH Tryz.f185=true:=by kernel_rfl
theorem aME:bH Tryz.f186=true:=by kernel_rfl
theorem aIw:bH Tryz.f188=true:=by kernel_rfl
theorem aIy:bH Tryz.f189=true:=by kernel_rfl
theorem aEi:bH Tryz.f190=true:=by kernel_rfl
theorem aEj:bH Tryz.f191=true:=by kernel_rfl
theorem aIQ:bH Tryz.f192=true:=by kernel_rfl
theorem aLe:bH Tryz.f193=true:=by kernel_rfl
theorem aLb:bH Tryz.f194=true:=by kernel_rfl
theorem aJt:tL Tryz.f195=true:=by kernel_rfl
theorem aIB:bH Tryz.f196=true:=by kernel_rfl
theorem aJ8:bH Tryz.f199=true:=by kernel_rfl
theorem aKE:bH Tryz.f200=true:=by kernel_rfl
theorem aKo:bH Tryz.f201=true:=by kernel_rfl
theorem aKQ:tL Tryz.f202=true:=by kernel_rfl
theorem aK0:bH Tryz.f203=true:=by kernel_rfl
theorem aJ2:bH Tryz.f204=true:=by kernel_rfl
theorem aJ1:bH Tryz.f205=true:=by kernel_rfl
theorem aEd:bH Tryz.f206=true:=by kernel_rfl
theorem aJ7:bH Tryz.f208=true:=by kernel_rfl
theorem aJF:bH Tryz.f209=true:=by kernel_rfl
theorem aKy:tL Tryz.f210=true:=by kernel_rfl
theorem aKA:tL Tryz.f211=true:=by kernel_rfl
theorem aKB:bH Tryz.f212=true:=by kernel_rfl
theorem aKC:tL Tryz.f213=true:=by kernel_rfl
theorem aKD:tL Tryz.f214=true:=by kernel_rfl
theorem aDY:bH Tryz.f215=true:=by kernel_rfl
theorem aKn:bH Tryz.f216=true:=by kernel_rfl
theorem aJB:bH Tryz.f217=true:=by kernel_rfl
theorem aJx:bH Tryz.f218=true:=by kernel_rfl
theorem aJ0:bH Tryz.f219=true:=by kernel_rfl
theorem aJZ:bH Tryz.f220=true:=by kernel_rfl
theorem aJX:bH Tryz.f221=true:=by kernel_rfl
theorem aI1:bH Tryz.f222=true:=by kernel_rfl
theorem aJP:bH Tryz.f223=true:=by kernel_rfl
theorem aJU:bH Tryz.f224=true:=by kernel_rfl
theorem aJ4:bH Tryz.f225=true:=by kernel_rfl
theorem aKh:bH Tryz.f226=true:=by kernel_rfl
theorem aKv:bH Tryz.f227=true:=by kernel_rfl
theorem aKi:tL Tryz.f228=true:=by kernel_rfl
theorem aKw:bH Tryz.f229=true:=by kernel_rfl
theorem aKx:bH Tryz.f230=true:=by kernel_rfl
theorem aD4:tL Tryz.f231=true:=by kernel_rfl
theorem aKm:bH Tryz.f232=true:=by kernel_rfl
theorem aJh:bH Tryz.f233=true:=by kernel_rfl
theorem aJE:bH Tryz.f234=true:=by kernel_rfl
theorem aJH:tL Tryz.f235=true:=by kernel_rfl
theorem aIW:bH Tryz.f236=true:=by kernel_rfl
theorem aI0:bH Tryz.f237=true:=by kernel_rfl
theorem aIX:bH Tryz.f238=true:=by kernel_rfl
theorem aJD:bH Tryz.f239=true:=by kernel_rfl
theorem aJG:bH Tryz.f240=true:=by kernel_rfl
theorem aJN:bH Tryz.f241=true:=by kernel_rfl
theorem aJO:bH Tryz.f242=true:=by kernel_rfl
theorem aJK:bH Tryz.f243=true:=by kernel_rfl
theorem aDS:bH Tryz.f244=true:=by kernel_rfl
theorem aIM:bH Tryz.f245=true:=by kernel_rfl
theorem aKt:bH Tryz.f246=true:=by kernel_rfl
theorem aIV:bH Tryz.f247=true:=by kernel_rfl
theorem aJJ:bH Tryz.f248=true:=by kernel_rfl
theorem aJS:bH Tryz.f249=true:=by kernel_rfl
theorem aJC:bH Tryz.f250=true:=by kernel_rfl
theorem aI3:bH Tryz.f251=true:=by kernel_rfl
theorem aJQ:bH Tryz.f252=true:=by kernel_rfl
end Go.Ab.Tryz
