/-
  Part 8 of the proof: an evaluator of programs, its soundness, and what functions of this program compute.
-/
import Derived.Test.YtmcjkemalibacaaGreatK7
import Derived.Test.YtmcjkemalibacaaGreatProg
import Derived.KernelRfl
set_option linter.all false
set_option maxRecDepth 20000
set_option maxHeartbeats 40000000
namespace Go.Ab.Tryz
open Classical Go.Proofs Go.Ab
theorem mixed:Tryz.prog.follows .mixedOrders=true:=by kernel_rfl
theorem ld3 (cs:List AV) (o:Nat):fD Tryz.prog 3 cs o=cs[o]?:=by
 have:fP Tryz.prog 3=some (false,1):=by kernel_rfl
 simp only[fD,this]
theorem ik3:intKind Tryz.prog 3=some .i64:=by kernel_rfl
theorem lk3:tC Tryz.prog 3=some 1:=by kernel_rfl
theorem ze3:dZ Tryz.prog 3=some [.int .i64 0]:=by kernel_rfl
theorem aRT (cs:List AV) (o:Nat):fD Tryz.prog 23 cs o=cs[o]?:=by
 have:fP Tryz.prog 23=some (false,1):=by kernel_rfl
 simp only[fD,this]
theorem aRU:intKind Tryz.prog 23=some .u64:=by kernel_rfl
theorem TK:tC Tryz.prog 23=some 1:=by kernel_rfl
theorem aG4:dZ Tryz.prog 23=some [.int .u64 0]:=by kernel_rfl
theorem aRV:intKind Tryz.prog 61=some .u64:=by kernel_rfl
theorem aRW:tC Tryz.prog 61=some 1:=by kernel_rfl
theorem aRX:dZ Tryz.prog 61=some [.int .u64 0]:=by kernel_rfl
theorem ld5 (cs:List AV) (o:Nat):fD Tryz.prog 5 cs o=cs[o]?:=by
 have:fP Tryz.prog 5=some (false,1):=by kernel_rfl
 simp only[fD,this]
theorem ik5:intKind Tryz.prog 5=some .u8:=by kernel_rfl
theorem lk5:tC Tryz.prog 5=some 1:=by kernel_rfl
theorem ze5:dZ Tryz.prog 5=some [.int .u8 0]:=by kernel_rfl
theorem ik2:intKind Tryz.prog 2=some .i64:=by kernel_rfl
theorem lk2:tC Tryz.prog 2=some 1:=by kernel_rfl
theorem ze2:dZ Tryz.prog 2=some [.int .i64 0]:=by kernel_rfl
theorem aRY:intKind Tryz.prog 64=some .i64:=by kernel_rfl
theorem aRZ:tC Tryz.prog 64=some 1:=by kernel_rfl
theorem aR0:dZ Tryz.prog 64=some [.int .i64 0]:=by kernel_rfl
theorem ld4 (cs:List AV) (o:Nat):fD Tryz.prog 4 cs o=cs[o]?:=by
 have:fP Tryz.prog 4=some (false,1):=by kernel_rfl
 simp only[fD,this]
theorem lk4:tC Tryz.prog 4=some 1:=by kernel_rfl
theorem ze4:dZ Tryz.prog 4=some [.bool false]:=by kernel_rfl
theorem be4 (a b:Bool):gD Tryz.prog .eql 4 (.v (.bool a)) (.v (.bool b))=some (.v (.bool (a == b))):=by
 have:Tryz.prog.underlying 4=some .bool:=by kernel_rfl
 simp only[gD,this]
theorem aR1 (cs:List AV) (o:Nat) (h:32≤cs.length-o):fD Tryz.prog 27 cs o=some (.agg (rd cs o 32)):=by
 have:fP Tryz.prog 27=some (true,32):=by kernel_rfl
 simp[fD,this,h]
theorem aKg:tC Tryz.prog 27=some 32:=by kernel_rfl
theorem aMC:dZ Tryz.prog 27=some tE:=by kernel_rfl
theorem aG5 (a b:cK):uS Tryz.prog 27 (aX a) (aX b)=some (decide (a=b)):=qZ (l:=Ft) (by kernel_rfl) (by kernel_rfl) (by kernel_rfl) (mQ a b) (oP a b)
theorem aR2 (a b:cK):gD Tryz.prog .eql 27 (.agg (aX a)) (.agg (aX b))=some (.v (.bool (decide (a=b)))):=by simp only[gD,aG5,Option.map_some]
theorem aR3 (a b:cK):gD Tryz.prog .neq 27 (.agg (aX a)) (.agg (aX b))=some (.v (.bool (!(decide (a=b))))):=by simp only[gD,aG5,Option.map_some]
theorem aFJ:jM Tryz.prog 27=some (32,1):=by kernel_rfl
theorem aR4 (st:St) (parts:List (Nat × Operand)):iU Tryz.prog st 27 parts=if (parts.all fun p=>(st.ev p.2).jD)=true then (gT (fun i=>some (i * 1,1)) (aX dL) (parts.map fun p=>(p.1,st.ev p.2))).map .agg else none:=iF (z:=tE) (by kernel_rfl) jP (Tk (by kernel_rfl))
theorem aR5 (cs:List AV) (o:Nat) (h:4≤cs.length-o):fD Tryz.prog 33 cs o=some (.agg (rd cs o 4)):=by
 have:fP Tryz.prog 33=some (true,4):=by kernel_rfl
 simp[fD,this,h]
theorem aR6:tC Tryz.prog 33=some 4:=by kernel_rfl
theorem aR7:dZ Tryz.prog 33=some Zb:=by kernel_rfl
theorem aMD (a b:qR):uS Tryz.prog 33 (gH a) (gH b)=some (decide (a=b)):=qZ (l:=ZK) (by kernel_rfl) (by kernel_rfl) (by kernel_rfl) (Ly a b) (Rn a b)
theorem aR8 (a b:qR):gD Tryz.prog .neq 33 (.agg (gH a)) (.agg (gH b))=some (.v (.bool (!(decide (a=b))))):=by simp only[gD,aMD,Option.map_some]
theorem aJZ:jM Tryz.prog 33=some (4,1):=by kernel_rfl
theorem aR9 (st:St) (parts:List (Nat × Operand)):iU Tryz.prog st 33 parts=if (parts.all fun p=>(st.ev p.2).jD)=true then (gT (fun i=>some (i * 1,1)) (gH FF) (parts.map fun p=>(p.1,st.ev p.2))).map .agg else none:=iF (z:=Zb) (by kernel_rfl) jQ (Tk (by kernel_rfl))
theorem aSa (cs:List AV) (o:Nat) (h:33≤cs.length-o):fD Tryz.prog 41 cs o=some (.agg (rd cs o 33)):=by
 have:fP Tryz.prog 41=some (true,33):=by kernel_rfl
 simp[fD,this,h]
theorem aSb:tC Tryz.prog 41=some 33:=by kernel_rfl
theorem aG6:aV Tryz.prog 41 0=some 0:=by kernel_rfl
theorem aG7:aV Tryz.prog 41 1=some 1:=by kernel_rfl
theorem aKf:dZ Tryz.prog 41=some Cr:=by kernel_rfl
theorem aG8 (a b:fS):uS Tryz.prog 41 (bY a) (bY b)=some (decide (a=b)):=qZ (l:=Tm) (by kernel_rfl) (by kernel_rfl) (by kernel_rfl) (sX a b) (mY a b)
theorem aSc (a b:fS):gD Tryz.prog .eql 41 (.agg (bY a)) (.agg (bY b))=some (.v (.bool (decide (a=b)))):=by simp only[gD,aG8,Option.map_some]
theorem aSd (a b:fS):gD Tryz.prog .neq 41 (.agg (bY a)) (.agg (bY b))=some (.v (.bool (!(decide (a=b))))):=by simp only[gD,aG8,Option.map_some]
theorem aSe (st:St) (parts:List (Nat × Operand)):iU Tryz.prog st 41 parts=if (parts.all fun p=>(st.ev p.2).jD)=true then (gT (fun i=>([(0,1),(1,32)]:List (Nat × Nat))[i]?) (bY iA) (parts.map fun p=>(p.1,st.ev p.2))).map .agg else none:=iF (z:=Cr) (by kernel_rfl) Ax (fB (by kernel_rfl))
theorem aSf (cs:List AV) (o:Nat) (h:66≤cs.length-o):fD Tryz.prog 72 cs o=some (.agg (rd cs o 66)):=by
 have:fP Tryz.prog 72=some (true,66):=by kernel_rfl
 simp[fD,this,h]
theorem aSg:tC Tryz.prog 72=some 66:=by kernel_rfl
theorem aG9:aV Tryz.prog 72 0=some 0:=by kernel_rfl
theorem aHa:aV Tryz.prog 72 1=some 33:=by kernel_rfl
theorem aSh:dZ Tryz.prog 72=some Pb:=by kernel_rfl
theorem aSi (st:St) (parts:List (Nat × Operand)):iU Tryz.prog st 72 parts=if (parts.all fun p=>(st.ev p.2).jD)=true then (gT (fun i=>([(0,33),(33,33)]:List (Nat × Nat))[i]?) (fN Nr) (parts.map fun p=>(p.1,st.ev p.2))).map .agg else none:=iF (z:=Pb) (by kernel_rfl) Ro (fB (by kernel_rfl))
theorem aSj (cs:List AV) (o:Nat) (h:238≤cs.length-o):fD Tryz.prog 74 cs o=some (.agg (rd cs o 238)):=by
 have:fP Tryz.prog 74=some (true,238):=by kernel_rfl
 simp[fD,this,h]
theorem UG:tC Tryz.prog 74=some 238:=by kernel_rfl
theorem aHb:aV Tryz.prog 74 0=some 0:=by kernel_rfl
theorem aHc:aV Tryz.prog 74 1=some 66:=by kernel_rfl
theorem aHd:aV Tryz.prog 74 2=some 67:=by kernel_rfl
theorem aHe:aV Tryz.prog 74 3=some 99:=by kernel_rfl
theorem aHf:aV Tryz.prog 74 4=some 131:=by kernel_rfl
theorem aHg:aV Tryz.prog 74 5=some 163:=by kernel_rfl
theorem aHh:aV Tryz.prog 74 6=some 167:=by kernel_rfl
theorem aHi:aV Tryz.prog 74 7=some 171:=by kernel_rfl
theorem aHj:aV Tryz.prog 74 8=some 204:=by kernel_rfl
theorem aHk:aV Tryz.prog 74 9=some 237:=by kernel_rfl
theorem aHl:dZ Tryz.prog 74=some Rr:=by kernel_rfl
theorem aHm (a b:Block):uS Tryz.prog 74 (aU a) (aU b)=some (decide (a=b)):=qZ (l:=WA) (by kernel_rfl) (by kernel_rfl) (by kernel_rfl) (Tn a b) (Ze a b)
theorem aSk (a b:Block):gD Tryz.prog .eql 74 (.agg (aU a)) (.agg (aU b))=some (.v (.bool (decide (a=b)))):=by simp only[gD,aHm,Option.map_some]
theorem aSl (a b:Block):gD Tryz.prog .neq 74 (.agg (aU a)) (.agg (aU b))=some (.v (.bool (!(decide (a=b))))):=by simp only[gD,aHm,Option.map_some]
theorem aSm (st:St) (parts:List (Nat × Operand)):iU Tryz.prog st 74 parts=if (parts.all fun p=>(st.ev p.2).jD)=true then (gT (fun i=>([(0,66),(66,1),(67,32),(99,32),(131,32),(163,4),(167,4),(171,33),(204,33),(237,1)]:List (Nat × Nat))[i]?) (aU fC) (parts.map fun p=>(p.1,st.ev p.2))).map .agg else none:=iF (z:=Rr) (by kernel_rfl) Pe (fB (by kernel_rfl))
theorem aSn (cs:List AV) (o:Nat) (h:240≤cs.length-o):fD Tryz.prog 76 cs o=some (.agg (rd cs o 240)):=by
 have:fP Tryz.prog 76=some (true,240):=by kernel_rfl
 simp[fD,this,h]
theorem aSo:tC Tryz.prog 76=some 240:=by kernel_rfl
theorem aHn:aV Tryz.prog 76 0=some 0:=by kernel_rfl
theorem aHo:aV Tryz.prog 76 1=some 238:=by kernel_rfl
theorem aHp:aV Tryz.prog 76 2=some 239:=by kernel_rfl
theorem aHq:dZ Tryz.prog 76=some Zf:=by kernel_rfl
theorem aME (a b:Node):uS Tryz.prog 76 (fG a) (fG b)=some (decide (a=b)):=qZ (l:=aFf) (by kernel_rfl) (by kernel_rfl) (by kernel_rfl) (We a b) (G0 a b)
theorem aSp (a b:Node):gD Tryz.prog .neq 76 (.agg (fG a)) (.agg (fG b))=some (.v (.bool (!(decide (a=b))))):=by simp only[gD,aME,Option.map_some]
theorem aSq (st:St) (parts:List (Nat × Operand)):iU Tryz.prog st 76 parts=if (parts.all fun p=>(st.ev p.2).jD)=true then (gT (fun i=>([(0,238),(238,1),(239,1)]:List (Nat × Nat))[i]?) (fG ZN) (parts.map fun p=>(p.1,st.ev p.2))).map .agg else none:=iF (z:=Zf) (by kernel_rfl) IU (fB (by kernel_rfl))
theorem aSr (cs:List AV) (o:Nat) (h:1≤cs.length-o):fD Tryz.prog 50 cs o=some (.agg (rd cs o 1)):=by
 have:fP Tryz.prog 50=some (true,1):=by kernel_rfl
 simp[fD,this,h]
theorem aSs:tC Tryz.prog 50=some 1:=by kernel_rfl
theorem aHr:aV Tryz.prog 50 0=some 0:=by kernel_rfl
theorem aSt:dZ Tryz.prog 50=some [.slice none 0 0]:=by kernel_rfl
theorem aSu (st:St) (parts:List (Nat × Operand)):iU Tryz.prog st 50 parts=if (parts.all fun p=>(st.ev p.2).jD)=true then (gT (fun i=>([(0,1)]:List (Nat × Nat))[i]?) [.v (.slice none 0 0)] (parts.map fun p=>(p.1,st.ev p.2))).map .agg else none:=iF (z:=[.slice none 0 0]) (by kernel_rfl) rfl (fB (by kernel_rfl))
theorem aSv (cs:List AV) (o:Nat) (h:1≤cs.length-o):fD Tryz.prog 25 cs o=some (.agg (rd cs o 1)):=by
 have:fP Tryz.prog 25=some (true,1):=by kernel_rfl
 simp[fD,this,h]
theorem aSw:tC Tryz.prog 25=some 1:=by kernel_rfl
theorem aHs:aV Tryz.prog 25 0=some 0:=by kernel_rfl
theorem aSx:dZ Tryz.prog 25=some Jj:=by kernel_rfl
theorem aSy (st:St) (parts:List (Nat × Operand)):iU Tryz.prog st 25 parts=if (parts.all fun p=>(st.ev p.2).jD)=true then (gT (fun i=>([(0,1)]:List (Nat × Nat))[i]?) (jX Vj) (parts.map fun p=>(p.1,st.ev p.2))).map .agg else none:=iF (z:=Jj) (by kernel_rfl) Jk (fB (by kernel_rfl))
theorem aSz (cs:List AV) (o:Nat) (h:34≤cs.length-o):fD Tryz.prog 29 cs o=some (.agg (rd cs o 34)):=by
 have:fP Tryz.prog 29=some (true,34):=by kernel_rfl
 simp[fD,this,h]
theorem aSA:tC Tryz.prog 29=some 34:=by kernel_rfl
theorem aHt:aV Tryz.prog 29 0=some 0:=by kernel_rfl
theorem aHu:aV Tryz.prog 29 1=some 1:=by kernel_rfl
theorem aHv:aV Tryz.prog 29 2=some 2:=by kernel_rfl
theorem aSB:dZ Tryz.prog 29=some Db:=by kernel_rfl
theorem aMF (a b:fM):uS Tryz.prog 29 (bZ a) (bZ b)=some (decide (a=b)):=qZ (l:=QK) (by kernel_rfl) (by kernel_rfl) (by kernel_rfl) (CH a b) (JA a b)
theorem aSC (a b:fM):gD Tryz.prog .eql 29 (.agg (bZ a)) (.agg (bZ b))=some (.v (.bool (decide (a=b)))):=by simp only[gD,aMF,Option.map_some]
theorem aSD (st:St) (parts:List (Nat × Operand)):iU Tryz.prog st 29 parts=if (parts.all fun p=>(st.ev p.2).jD)=true then (gT (fun i=>([(0,1),(1,1),(2,32)]:List (Nat × Nat))[i]?) (bZ zO) (parts.map fun p=>(p.1,st.ev p.2))).map .agg else none:=iF (z:=Db) (by kernel_rfl) Md (fB (by kernel_rfl))
theorem aSE (cs:List AV) (o:Nat) (h:6≤cs.length-o):fD Tryz.prog 31 cs o=some (.agg (rd cs o 6)):=by
 have:fP Tryz.prog 31=some (true,6):=by kernel_rfl
 simp[fD,this,h]
theorem aSF:tC Tryz.prog 31=some 6:=by kernel_rfl
theorem aHw:aV Tryz.prog 31 0=some 0:=by kernel_rfl
theorem aHx:aV Tryz.prog 31 1=some 1:=by kernel_rfl
theorem aHy:aV Tryz.prog 31 2=some 2:=by kernel_rfl
theorem aHz:aV Tryz.prog 31 3=some 3:=by kernel_rfl
theorem aHA:aV Tryz.prog 31 4=some 4:=by kernel_rfl
theorem aHB:aV Tryz.prog 31 5=some 5:=by kernel_rfl
theorem aSG:dZ Tryz.prog 31=some Pn:=by kernel_rfl
theorem aMG (a b:lT):uS Tryz.prog 31 (fJ a) (fJ b)=some (decide (a=b)):=qZ (l:=ZR) (by kernel_rfl) (by kernel_rfl) (by kernel_rfl) (JC a b) (QL a b)
theorem aSH (a b:lT):gD Tryz.prog .neq 31 (.agg (fJ a)) (.agg (fJ b))=some (.v (.bool (!(decide (a=b))))):=by simp only[gD,aMG,Option.map_some]
theorem aSI (st:St) (parts:List (Nat × Operand)):iU Tryz.prog st 31 parts=if (parts.all fun p=>(st.ev p.2).jD)=true then (gT (fun i=>([(0,1),(1,1),(2,1),(3,1),(4,1),(5,1)]:List (Nat × Nat))[i]?) (fJ JB) (parts.map fun p=>(p.1,st.ev p.2))).map .agg else none:=iF (z:=Pn) (by kernel_rfl) Rz (fB (by kernel_rfl))
theorem aSJ (cs:List AV) (o:Nat) (h:45≤cs.length-o):fD Tryz.prog 36 cs o=some (.agg (rd cs o 45)):=by
 have:fP Tryz.prog 36=some (true,45):=by kernel_rfl
 simp[fD,this,h]
theorem aSK:tC Tryz.prog 36=some 45:=by kernel_rfl
theorem aHC:aV Tryz.prog 36 0=some 0:=by kernel_rfl
theorem aHD:aV Tryz.prog 36 1=some 6:=by kernel_rfl
theorem aHE:aV Tryz.prog 36 2=some 7:=by kernel_rfl
theorem aHF:aV Tryz.prog 36 3=some 8:=by kernel_rfl
theorem aHG:aV Tryz.prog 36 4=some 12:=by kernel_rfl
theorem aHH:aV Tryz.prog 36 5=some 44:=by kernel_rfl
theorem aSL:dZ Tryz.prog 36=some Pq:=by kernel_rfl
theorem aSM (st:St) (parts:List (Nat × Operand)):iU Tryz.prog st 36 parts=if (parts.all fun p=>(st.ev p.2).jD)=true then (gT (fun i=>([(0,6),(6,1),(7,1),(8,4),(12,32),(44,1)]:List (Nat × Nat))[i]?) (bU nJ) (parts.map fun p=>(p.1,st.ev p.2))).map .agg else none:=iF (z:=Pq) (by kernel_rfl) Sb (fB (by kernel_rfl))
theorem aMH (cs:List AV) (o:Nat) (h:34≤cs.length-o):fD Tryz.prog 100 cs o=some (.agg (rd cs o 34)):=by
 have:fP Tryz.prog 100=some (true,34):=by kernel_rfl
 simp[fD,this,h]
theorem aEy:tC Tryz.prog 100=some 34:=by kernel_rfl
theorem aDp:aV Tryz.prog 100 0=some 0:=by kernel_rfl
theorem aDq:aV Tryz.prog 100 1=some 1:=by kernel_rfl
theorem aDr:aV Tryz.prog 100 2=some 2:=by kernel_rfl
theorem aFj:dZ Tryz.prog 100=some ZS:=by kernel_rfl
theorem aFk (a b:kS):uS Tryz.prog 100 (jS a) (jS b)=some (decide (a=b)):=qZ (l:=aFh) (by kernel_rfl) (by kernel_rfl) (by kernel_rfl) (WO a b) (H0 a b)
theorem aMI (a b:kS):gD Tryz.prog .neq 100 (.agg (jS a)) (.agg (jS b))=some (.v (.bool (!(decide (a=b))))):=by simp only[gD,aFk,Option.map_some]
theorem aMJ (st:St) (parts:List (Nat × Operand)):iU Tryz.prog st 100 parts=if (parts.all fun p=>(st.ev p.2).jD)=true then (gT (fun i=>([(0,1),(1,1),(2,32)]:List (Nat × Nat))[i]?) (jS sD) (parts.map fun p=>(p.1,st.ev p.2))).map .agg else none:=iF (z:=ZS) (by kernel_rfl) ZT (fB (by kernel_rfl))
theorem aSN (cs:List AV) (o:Nat) (h:67≤cs.length-o):fD Tryz.prog 87 cs o=some (.agg (rd cs o 67)):=by
 have:fP Tryz.prog 87=some (true,67):=by kernel_rfl
 simp[fD,this,h]
theorem aSO:tC Tryz.prog 87=some 67:=by kernel_rfl
theorem aHI:aV Tryz.prog 87 0=some 0:=by kernel_rfl
theorem aHJ:aV Tryz.prog 87 1=some 1:=by kernel_rfl
theorem aHK:aV Tryz.prog 87 2=some 33:=by kernel_rfl
theorem aHL:aV Tryz.prog 87 3=some 66:=by kernel_rfl
theorem aMK:dZ Tryz.prog 87=some aAJ:=by kernel_rfl
theorem aSP (st:St) (parts:List (Nat × Operand)):iU Tryz.prog st 87 parts=if (parts.all fun p=>(st.ev p.2).jD)=true then (gT (fun i=>([(0,1),(1,32),(33,33),(66,1)]:List (Nat × Nat))[i]?) (iB Jo) (parts.map fun p=>(p.1,st.ev p.2))).map .agg else none:=iF (z:=aAJ) (by kernel_rfl) WQ (fB (by kernel_rfl))
theorem aML (cs:List AV) (o:Nat) (h:35≤cs.length-o):fD Tryz.prog 186 cs o=some (.agg (rd cs o 35)):=by
 have:fP Tryz.prog 186=some (true,35):=by kernel_rfl
 simp[fD,this,h]
theorem aMM:tC Tryz.prog 186=some 35:=by kernel_rfl
theorem aDs:aV Tryz.prog 186 0=some 0:=by kernel_rfl
theorem aDt:aV Tryz.prog 186 1=some 1:=by kernel_rfl
theorem aDu:aV Tryz.prog 186 2=some 2:=by kernel_rfl
theorem aDv:aV Tryz.prog 186 3=some 34:=by kernel_rfl
theorem aMN:dZ Tryz.prog 186=some Sc:=by kernel_rfl
theorem aMO (st:St) (parts:List (Nat × Operand)):iU Tryz.prog st 186 parts=if (parts.all fun p=>(st.ev p.2).jD)=true then (gT (fun i=>([(0,1),(1,1),(2,32),(34,1)]:List (Nat × Nat))[i]?) (gV JH) (parts.map fun p=>(p.1,st.ev p.2))).map .agg else none:=iF (z:=Sc) (by kernel_rfl) Zk (fB (by kernel_rfl))
theorem aMP (cs:List AV) (o:Nat) (h:70≤cs.length-o):fD Tryz.prog 188 cs o=some (.agg (rd cs o 70)):=by
 have:fP Tryz.prog 188=some (true,70):=by kernel_rfl
 simp[fD,this,h]
theorem aMQ:tC Tryz.prog 188=some 70:=by kernel_rfl
theorem aDw:aV Tryz.prog 188 0=some 0:=by kernel_rfl
theorem aDx:aV Tryz.prog 188 1=some 35:=by kernel_rfl
theorem aMR:dZ Tryz.prog 188=some Dp:=by kernel_rfl
theorem aMS (st:St) (parts:List (Nat × Operand)):iU Tryz.prog st 188 parts=if (parts.all fun p=>(st.ev p.2).jD)=true then (gT (fun i=>([(0,35),(35,35)]:List (Nat × Nat))[i]?) (cB Sd) (parts.map fun p=>(p.1,st.ev p.2))).map .agg else none:=iF (z:=Dp) (by kernel_rfl) Ib (fB (by kernel_rfl))
theorem aMT (cs:List AV) (o:Nat) (h:34≤cs.length-o):fD Tryz.prog 118 cs o=some (.agg (rd cs o 34)):=by
 have:fP Tryz.prog 118=some (true,34):=by kernel_rfl
 simp[fD,this,h]
theorem aMU:tC Tryz.prog 118=some 34:=by kernel_rfl
theorem aDy:aV Tryz.prog 118 0=some 0:=by kernel_rfl
theorem aDz:aV Tryz.prog 118 1=some 33:=by kernel_rfl
theorem aFl:dZ Tryz.prog 118=some Zl:=by kernel_rfl
theorem aMV (st:St) (parts:List (Nat × Operand)):iU Tryz.prog st 118 parts=if (parts.all fun p=>(st.ev p.2).jD)=true then (gT (fun i=>([(0,33),(33,1)]:List (Nat × Nat))[i]?) (cI iW) (parts.map fun p=>(p.1,st.ev p.2))).map .agg else none:=iF (z:=Zl) (by kernel_rfl) Zm (fB (by kernel_rfl))
theorem aSQ (cs:List AV) (o:Nat) (h:35≤cs.length-o):fD Tryz.prog 63 cs o=some (.agg (rd cs o 35)):=by
 have:fP Tryz.prog 63=some (true,35):=by kernel_rfl
 simp[fD,this,h]
theorem aCf:tC Tryz.prog 63=some 35:=by kernel_rfl
theorem aHM:aV Tryz.prog 63 0=some 0:=by kernel_rfl
theorem aHN:aV Tryz.prog 63 1=some 1:=by kernel_rfl
theorem aHO:aV Tryz.prog 63 2=some 33:=by kernel_rfl
theorem aHP:aV Tryz.prog 63 3=some 34:=by kernel_rfl
theorem T6:dZ Tryz.prog 63=some wP:=by kernel_rfl
theorem aMW (a b:Request):uS Tryz.prog 63 (bL a) (bL b)=some (decide (a=b)):=qZ (l:=QV) (by kernel_rfl) (by kernel_rfl) (by kernel_rfl) (CT a b) (JL a b)
theorem aSR (a b:Request):gD Tryz.prog .neq 63 (.agg (bL a)) (.agg (bL b))=some (.v (.bool (!(decide (a=b))))):=by simp only[gD,aMW,Option.map_some]
theorem aSS (st:St) (parts:List (Nat × Operand)):iU Tryz.prog st 63 parts=if (parts.all fun p=>(st.ev p.2).jD)=true then (gT (fun i=>([(0,1),(1,32),(33,1),(34,1)]:List (Nat × Nat))[i]?) (bL bN) (parts.map fun p=>(p.1,st.ev p.2))).map .agg else none:=iF (z:=wP) (by kernel_rfl) Zo (fB (by kernel_rfl))
theorem aST (cs:List AV) (o:Nat) (h:96≤cs.length-o):fD Tryz.prog 56 cs o=some (.agg (rd cs o 96)):=by
 have:fP Tryz.prog 56=some (true,96):=by kernel_rfl
 simp[fD,this,h]
theorem aSU:tC Tryz.prog 56=some 96:=by kernel_rfl
theorem aHQ:aV Tryz.prog 56 0=some 0:=by kernel_rfl
theorem aHR:aV Tryz.prog 56 1=some 32:=by kernel_rfl
theorem aHS:aV Tryz.prog 56 2=some 64:=by kernel_rfl
theorem aMX:dZ Tryz.prog 56=some Ic:=by kernel_rfl
theorem aMY (a b:Command):uS Tryz.prog 56 (eA a) (eA b)=some (decide (a=b)):=qZ (l:=QW) (by kernel_rfl) (by kernel_rfl) (by kernel_rfl) (CU a b) (JM a b)
theorem aSV (a b:Command):gD Tryz.prog .eql 56 (.agg (eA a)) (.agg (eA b))=some (.v (.bool (decide (a=b)))):=by simp only[gD,aMY,Option.map_some]
theorem aSW (st:St) (parts:List (Nat × Operand)):iU Tryz.prog st 56 parts=if (parts.all fun p=>(st.ev p.2).jD)=true then (gT (fun i=>([(0,32),(32,32),(64,32)]:List (Nat × Nat))[i]?) (eA Zs) (parts.map fun p=>(p.1,st.ev p.2))).map .agg else none:=iF (z:=Ic) (by kernel_rfl) Mj (fB (by kernel_rfl))
theorem aSX (cs:List AV) (o:Nat) (h:2≤cs.length-o):fD Tryz.prog 39 cs o=some (.agg (rd cs o 2)):=by
 have:fP Tryz.prog 39=some (true,2):=by kernel_rfl
 simp[fD,this,h]
theorem aSY:tC Tryz.prog 39=some 2:=by kernel_rfl
theorem aHT:aV Tryz.prog 39 0=some 0:=by kernel_rfl
theorem aHU:aV Tryz.prog 39 1=some 1:=by kernel_rfl
theorem aSZ:dZ Tryz.prog 39=some Zv:=by kernel_rfl
theorem aS0 (st:St) (parts:List (Nat × Operand)):iU Tryz.prog st 39 parts=if (parts.all fun p=>(st.ev p.2).jD)=true then (gT (fun i=>([(0,1),(1,1)]:List (Nat × Nat))[i]?) (eX Hd) (parts.map fun p=>(p.1,st.ev p.2))).map .agg else none:=iF (z:=Zv) (by kernel_rfl) Zw (fB (by kernel_rfl))
theorem aS1 (cs:List AV) (o:Nat) (h:66≤cs.length-o):fD Tryz.prog 43 cs o=some (.agg (rd cs o 66)):=by
 have:fP Tryz.prog 43=some (true,66):=by kernel_rfl
 simp[fD,this,h]
theorem aS2:tC Tryz.prog 43=some 66:=by kernel_rfl
theorem aHV:aV Tryz.prog 43 0=some 0:=by kernel_rfl
theorem aHW:aV Tryz.prog 43 1=some 33:=by kernel_rfl
theorem aS3:dZ Tryz.prog 43=some Ds:=by kernel_rfl
theorem aMZ (a b:jZ):uS Tryz.prog 43 (eE a) (eE b)=some (decide (a=b)):=qZ (l:=FH) (by kernel_rfl) (by kernel_rfl) (by kernel_rfl) (Zx a b) (CV a b)
theorem aS4 (a b:jZ):gD Tryz.prog .neq 43 (.agg (eE a)) (.agg (eE b))=some (.v (.bool (!(decide (a=b))))):=by simp only[gD,aMZ,Option.map_some]
theorem aS5 (st:St) (parts:List (Nat × Operand)):iU Tryz.prog st 43 parts=if (parts.all fun p=>(st.ev p.2).jD)=true then (gT (fun i=>([(0,33),(33,33)]:List (Nat × Nat))[i]?) (eE Si) (parts.map fun p=>(p.1,st.ev p.2))).map .agg else none:=iF (z:=Ds) (by kernel_rfl) Ig (fB (by kernel_rfl))
theorem aS6:tC Tryz.prog 47=some 2:=by kernel_rfl
theorem aHX:aV Tryz.prog 47 0=some 0:=by kernel_rfl
theorem aHY:aV Tryz.prog 47 1=some 1:=by kernel_rfl
theorem aS7:dZ Tryz.prog 47=some Vk:=by kernel_rfl
theorem aS8 (cs:List AV) (o:Nat) (h:150≤cs.length-o):fD Tryz.prog 53 cs o=some (.agg (rd cs o 150)):=by
 have:fP Tryz.prog 53=some (true,150):=by kernel_rfl
 simp[fD,this,h]
theorem aS9:tC Tryz.prog 53=some 150:=by kernel_rfl
theorem aHZ:aV Tryz.prog 53 0=some 0:=by kernel_rfl
theorem aH0:aV Tryz.prog 53 1=some 45:=by kernel_rfl
theorem aH1:aV Tryz.prog 53 2=some 47:=by kernel_rfl
theorem aH2:aV Tryz.prog 53 3=some 113:=by kernel_rfl
theorem aH3:aV Tryz.prog 53 4=some 115:=by kernel_rfl
theorem aH4:aV Tryz.prog 53 5=some 116:=by kernel_rfl
theorem aH5:aV Tryz.prog 53 6=some 117:=by kernel_rfl
theorem aH6:aV Tryz.prog 53 7=some 149:=by kernel_rfl
theorem aTa:dZ Tryz.prog 53=some AA:=by kernel_rfl
theorem aTb (st:St) (parts:List (Nat × Operand)):iU Tryz.prog st 53 parts=if (parts.all fun p=>(st.ev p.2).jD)=true then (gT (fun i=>([(0,45),(45,2),(47,66),(113,2),(115,1),(116,1),(117,32),(149,1)]:List (Nat × Nat))[i]?) (aB gQ) (parts.map fun p=>(p.1,st.ev p.2))).map .agg else none:=iF (z:=AA) (by kernel_rfl) AB (fB (by kernel_rfl))
theorem aTc (cs:List AV) (o:Nat) (h:252≤cs.length-o):fD Tryz.prog 58 cs o=some (.agg (rd cs o 252)):=by
 have:fP Tryz.prog 58=some (true,252):=by kernel_rfl
 simp[fD,this,h]
theorem aTd:tC Tryz.prog 58=some 252:=by kernel_rfl
theorem aH7:aV Tryz.prog 58 0=some 0:=by kernel_rfl
theorem aH8:aV Tryz.prog 58 1=some 150:=by kernel_rfl
theorem aH9:aV Tryz.prog 58 2=some 151:=by kernel_rfl
theorem aIa:aV Tryz.prog 58 3=some 152:=by kernel_rfl
theorem aIb:aV Tryz.prog 58 4=some 153:=by kernel_rfl
theorem aIc:aV Tryz.prog 58 5=some 154:=by kernel_rfl
theorem aId:aV Tryz.prog 58 6=some 250:=by kernel_rfl
theorem aIe:aV Tryz.prog 58 7=some 251:=by kernel_rfl
theorem aTe:dZ Tryz.prog 58=some JR:=by kernel_rfl
theorem aTf (st:St) (parts:List (Nat × Operand)):iU Tryz.prog st 58 parts=if (parts.all fun p=>(st.ev p.2).jD)=true then (gT (fun i=>([(0,150),(150,1),(151,1),(152,1),(153,1),(154,96),(250,1),(251,1)]:List (Nat × Nat))[i]?) (aF jR) (parts.map fun p=>(p.1,st.ev p.2))).map .agg else none:=iF (z:=JR) (by kernel_rfl) QY (fB (by kernel_rfl))
theorem aM0 (cs:List AV) (o:Nat) (h:446≤cs.length-o):fD Tryz.prog 190 cs o=some (.agg (rd cs o 446)):=by
 have:fP Tryz.prog 190=some (true,446):=by kernel_rfl
 simp[fD,this,h]
theorem aM1:tC Tryz.prog 190=some 446:=by kernel_rfl
theorem aDA:aV Tryz.prog 190 0=some 0:=by kernel_rfl
theorem aDB:aV Tryz.prog 190 1=some 1:=by kernel_rfl
theorem aDC:aV Tryz.prog 190 2=some 239:=by kernel_rfl
theorem aDD:aV Tryz.prog 190 3=some 306:=by kernel_rfl
theorem aDE:aV Tryz.prog 190 4=some 376:=by kernel_rfl
theorem aDF:aV Tryz.prog 190 5=some 410:=by kernel_rfl
theorem aDG:aV Tryz.prog 190 6=some 444:=by kernel_rfl
theorem aDH:aV Tryz.prog 190 7=some 445:=by kernel_rfl
theorem aFm:dZ Tryz.prog 190=some aDo:=by kernel_rfl
theorem aM2 (st:St) (parts:List (Nat × Operand)):iU Tryz.prog st 190 parts=if (parts.all fun p=>(st.ev p.2).jD)=true then (gT (fun i=>([(0,1),(1,238),(239,67),(306,70),(376,34),(410,34),(444,1),(445,1)]:List (Nat × Nat))[i]?) (lC zK) (parts.map fun p=>(p.1,st.ev p.2))).map .agg else none:=iF (z:=aDo) (by kernel_rfl) aAK (fB (by kernel_rfl))
theorem aIf (cs:List AV):Ks Tryz.prog 41 0 (.agg cs)=cs[0]?:=VP (k:=1) (by kernel_rfl)
theorem Kw:dM Tryz.prog 22=some (3,1,8):=by kernel_rfl
theorem aDI:jM Tryz.prog 22=none:=by kernel_rfl
theorem aTg (cs:List AV) (o:Nat):fD Tryz.prog 22 cs o=cs[o]?:=by
 have:fP Tryz.prog 22=some (false,1):=by kernel_rfl
 simp only[fD,this]
theorem aTh:tC Tryz.prog 22=some 1:=by kernel_rfl
theorem aTi:dZ Tryz.prog 22=some [.slice none 0 0]:=by kernel_rfl
theorem aTj (n:Nat) (cs:List AV) (h:cs≠[]):gD Tryz.prog .eql 22 (.sl n cs) (.v (.slice none 0 0))=some (.v (.bool false)):=by
 have:Tryz.prog.underlying 22=some (.slice 3):=by kernel_rfl
 cases cs with
 | nil=>exact absurd rfl h
 | cons c cs=>simp[gD,sO,this]
theorem aTk:gD Tryz.prog .eql 22 (.v (.slice none 0 0)) (.v (.slice none 0 0))=some (.v (.bool true)):=by
 have:Tryz.prog.underlying 22=some (.slice 3):=by kernel_rfl
 simp[gD,sO,this]
theorem XC:dM Tryz.prog 34=some (23,1,8):=by kernel_rfl
theorem aIg:jM Tryz.prog 34=none:=by kernel_rfl
theorem aTl (cs:List AV) (o:Nat):fD Tryz.prog 34 cs o=cs[o]?:=by
 have:fP Tryz.prog 34=some (false,1):=by kernel_rfl
 simp only[fD,this]
theorem aTm:tC Tryz.prog 34=some 1:=by kernel_rfl
theorem aTn:dZ Tryz.prog 34=some [.slice none 0 0]:=by kernel_rfl
theorem aTo (n:Nat) (cs:List AV) (h:cs≠[]):gD Tryz.prog .eql 34 (.sl n cs) (.v (.slice none 0 0))=some (.v (.bool false)):=by
 have:Tryz.prog.underlying 34=some (.slice 23):=by kernel_rfl
 cases cs with
 | nil=>exact absurd rfl h
 | cons c cs=>simp[gD,sO,this]
theorem aTp:gD Tryz.prog .eql 34 (.v (.slice none 0 0)) (.v (.slice none 0 0))=some (.v (.bool true)):=by
 have:Tryz.prog.underlying 34=some (.slice 23):=by kernel_rfl
 simp[gD,sO,this]
theorem H4:dM Tryz.prog 37=some (100,34,48):=by kernel_rfl
theorem aIh:jM Tryz.prog 37=none:=by kernel_rfl
theorem aTq (cs:List AV) (o:Nat):fD Tryz.prog 37 cs o=cs[o]?:=by
 have:fP Tryz.prog 37=some (false,1):=by kernel_rfl
 simp only[fD,this]
theorem aTr:tC Tryz.prog 37=some 1:=by kernel_rfl
theorem aTs:dZ Tryz.prog 37=some [.slice none 0 0]:=by kernel_rfl
theorem aTt (n:Nat) (cs:List AV) (h:cs≠[]):gD Tryz.prog .eql 37 (.sl n cs) (.v (.slice none 0 0))=some (.v (.bool false)):=by
 have:Tryz.prog.underlying 37=some (.slice 100):=by kernel_rfl
 cases cs with
 | nil=>exact absurd rfl h
 | cons c cs=>simp[gD,sO,this]
theorem aTu:gD Tryz.prog .eql 37 (.v (.slice none 0 0)) (.v (.slice none 0 0))=some (.v (.bool true)):=by
 have:Tryz.prog.underlying 37=some (.slice 100):=by kernel_rfl
 simp[gD,sO,this]
theorem aAL:dM Tryz.prog 44=some (87,67,104):=by kernel_rfl
theorem aM3:jM Tryz.prog 44=none:=by kernel_rfl
theorem aTv (cs:List AV) (o:Nat):fD Tryz.prog 44 cs o=cs[o]?:=by
 have:fP Tryz.prog 44=some (false,1):=by kernel_rfl
 simp only[fD,this]
theorem aTw:tC Tryz.prog 44=some 1:=by kernel_rfl
theorem aTx:dZ Tryz.prog 44=some [.slice none 0 0]:=by kernel_rfl
theorem oR:dM Tryz.prog 45=some (74,238,336):=by kernel_rfl
theorem aIi:jM Tryz.prog 45=none:=by kernel_rfl
theorem aTy (cs:List AV) (o:Nat):fD Tryz.prog 45 cs o=cs[o]?:=by
 have:fP Tryz.prog 45=some (false,1):=by kernel_rfl
 simp only[fD,this]
theorem aTz:tC Tryz.prog 45=some 1:=by kernel_rfl
theorem aTA:dZ Tryz.prog 45=some [.slice none 0 0]:=by kernel_rfl
theorem aTB (n:Nat) (cs:List AV) (h:cs≠[]):gD Tryz.prog .eql 45 (.sl n cs) (.v (.slice none 0 0))=some (.v (.bool false)):=by
 have:Tryz.prog.underlying 45=some (.slice 74):=by kernel_rfl
 cases cs with
 | nil=>exact absurd rfl h
 | cons c cs=>simp[gD,sO,this]
theorem aTC:gD Tryz.prog .eql 45 (.v (.slice none 0 0)) (.v (.slice none 0 0))=some (.v (.bool true)):=by
 have:Tryz.prog.underlying 45=some (.slice 74):=by kernel_rfl
 simp[gD,sO,this]
theorem RC:dM Tryz.prog 48=some (76,240,352):=by kernel_rfl
theorem aIj:jM Tryz.prog 48=none:=by kernel_rfl
theorem aTD (cs:List AV) (o:Nat):fD Tryz.prog 48 cs o=cs[o]?:=by
 have:fP Tryz.prog 48=some (false,1):=by kernel_rfl
 simp only[fD,this]
theorem aTE:tC Tryz.prog 48=some 1:=by kernel_rfl
theorem aTF:dZ Tryz.prog 48=some [.slice none 0 0]:=by kernel_rfl
theorem aTG (n:Nat) (cs:List AV) (h:cs≠[]):gD Tryz.prog .eql 48 (.sl n cs) (.v (.slice none 0 0))=some (.v (.bool false)):=by
 have:Tryz.prog.underlying 48=some (.slice 76):=by kernel_rfl
 cases cs with
 | nil=>exact absurd rfl h
 | cons c cs=>simp[gD,sO,this]
theorem KE:dM Tryz.prog 51=some (118,34,64):=by kernel_rfl
theorem aM4:jM Tryz.prog 51=none:=by kernel_rfl
theorem aTH (cs:List AV) (o:Nat):fD Tryz.prog 51 cs o=cs[o]?:=by
 have:fP Tryz.prog 51=some (false,1):=by kernel_rfl
 simp only[fD,this]
theorem aTI:tC Tryz.prog 51=some 1:=by kernel_rfl
theorem aTJ:dZ Tryz.prog 51=some [.slice none 0 0]:=by kernel_rfl
theorem xX:dM Tryz.prog 54=some (63,35,56):=by kernel_rfl
theorem aIk:jM Tryz.prog 54=none:=by kernel_rfl
theorem aTK (cs:List AV) (o:Nat):fD Tryz.prog 54 cs o=cs[o]?:=by
 have:fP Tryz.prog 54=some (false,1):=by kernel_rfl
 simp only[fD,this]
theorem aTL:tC Tryz.prog 54=some 1:=by kernel_rfl
theorem aTM:dZ Tryz.prog 54=some [.slice none 0 0]:=by kernel_rfl
theorem aTN (n:Nat) (cs:List AV) (h:cs≠[]):gD Tryz.prog .eql 54 (.sl n cs) (.v (.slice none 0 0))=some (.v (.bool false)):=by
 have:Tryz.prog.underlying 54=some (.slice 63):=by kernel_rfl
 cases cs with
 | nil=>exact absurd rfl h
 | cons c cs=>simp[gD,sO,this]
theorem aTO:gD Tryz.prog .eql 54 (.v (.slice none 0 0)) (.v (.slice none 0 0))=some (.v (.bool true)):=by
 have:Tryz.prog.underlying 54=some (.slice 63):=by kernel_rfl
 simp[gD,sO,this]
theorem aDJ:dM Tryz.prog 70=some (27,32,32):=by kernel_rfl
theorem aM5:jM Tryz.prog 70=none:=by kernel_rfl
theorem aTP:tC Tryz.prog 70=some 1:=by kernel_rfl
theorem aTQ:dZ Tryz.prog 70=some [.slice none 0 0]:=by kernel_rfl
theorem N3:dM Tryz.prog 109=some (41,33,40):=by kernel_rfl
theorem aFn:jM Tryz.prog 109=none:=by kernel_rfl
theorem aM6:tC Tryz.prog 109=some 1:=by kernel_rfl
theorem aM7:dZ Tryz.prog 109=some [.slice none 0 0]:=by kernel_rfl
theorem ZU:dM Tryz.prog 124=some (190,446,720):=by kernel_rfl
theorem aM8:jM Tryz.prog 124=none:=by kernel_rfl
theorem aM9:tC Tryz.prog 124=some 1:=by kernel_rfl
theorem aNa:dZ Tryz.prog 124=some [.slice none 0 0]:=by kernel_rfl
theorem aFo:dM Tryz.prog 181=some (56,96,96):=by kernel_rfl
theorem aNb:jM Tryz.prog 181=none:=by kernel_rfl
theorem aNc:tC Tryz.prog 181=some 1:=by kernel_rfl
theorem aNd:dZ Tryz.prog 181=some [.slice none 0 0]:=by kernel_rfl
theorem ZV:dM Tryz.prog 236=some (5,1,1):=by kernel_rfl
theorem aNe:jM Tryz.prog 236=none:=by kernel_rfl
theorem aNf:tC Tryz.prog 236=some 1:=by kernel_rfl
theorem aNg:dZ Tryz.prog 236=some [.slice none 0 0]:=by kernel_rfl
theorem RE:dM Tryz.prog 262=some (4,1,1):=by kernel_rfl
theorem aFp:jM Tryz.prog 262=none:=by kernel_rfl
theorem aNh:tC Tryz.prog 262=some 1:=by kernel_rfl
theorem aNi:dZ Tryz.prog 262=some [.slice none 0 0]:=by kernel_rfl
theorem aTR {call:Nat→List AV→Option AV} {ops:Array Oper} {st:St} {T:Nat} {pos:String} {eP:Array Edge} (d:Nat):cF Tryz.prog call ops ⟨some d,.buildSlice 22 0 #[],T,pos,eP,none⟩ st=some ((st.new d (.row 3 1 0 [])).put (some d) (.own d (st.aP d))):=Rt Kw ze3 d
theorem aTS (st:St) (x:AV):dE Tryz.prog st 34 (.v (.slice none 0 0)) x=xY 23 1 8 (aR st x):=uK XC x
theorem aTT (st:St) (s g:Nat) (x:AV):dE Tryz.prog st 34 (.own s g) x=xJ 23 1 8 (st.heap s g) s g (aR st x):=sN XC s g x
theorem aTU (st:St) (s g:Nat) (kk:IntKind) (i:Int):bF Tryz.prog st 34 (.own s g) (.v (.int kk i))=PO 23 1 (st.heap s g) s g i:=Pg aIg XC s g kk i
theorem aTV {call:Nat→List AV→Option AV} {ops:Array Oper} {st:St} {T:Nat} {pos:String} {eP:Array Edge} (d:Nat):cF Tryz.prog call ops ⟨some d,.buildSlice 34 0 #[],T,pos,eP,none⟩ st=some ((st.new d (.row 23 1 0 [])).put (some d) (.own d (st.aP d))):=Rt XC aG4 d
theorem aTW {call:Nat→List AV→Option AV} {ops:Array Oper} {st:St} {T:Nat} {pos:String} {eP:Array Edge} (d:Nat) (x:Operand):cF Tryz.prog call ops ⟨some d,.buildSlice 34 1 #[(0,x)],T,pos,eP,none⟩ st=elV (st.ev x) (fun y=>some ((st.new d (.row 23 1 1 [.v y])).put (some d) (.own d (st.aP d)))) (cF Tryz.prog call ops ⟨some d,.buildSlice 34 1 #[(0,x)],T,pos,eP,none⟩ st):=IV XC aG4 d x
theorem aTX (st:St) (x:AV):dE Tryz.prog st 37 (.v (.slice none 0 0)) x=xY 100 34 48 (aR st x):=uK H4 x
theorem aTY (st:St) (s g:Nat) (x:AV):dE Tryz.prog st 37 (.own s g) x=xJ 100 34 48 (st.heap s g) s g (aR st x):=sN H4 s g x
theorem aTZ (st:St) (s g:Nat) (kk:IntKind) (i:Int):bF Tryz.prog st 37 (.own s g) (.v (.int kk i))=PO 100 34 (st.heap s g) s g i:=Pg aIh H4 s g kk i
theorem aT0 {call:Nat→List AV→Option AV} {ops:Array Oper} {st:St} {T:Nat} {pos:String} {eP:Array Edge} (d:Nat):cF Tryz.prog call ops ⟨some d,.buildSlice 37 0 #[],T,pos,eP,none⟩ st=some ((st.new d (.row 100 34 0 [])).put (some d) (.own d (st.aP d))):=Rt H4 aFj d
theorem aT1 (st:St) (x:AV):dE Tryz.prog st 44 (.v (.slice none 0 0)) x=xY 87 67 104 (aR st x):=uK aAL x
theorem aT2 (st:St) (s g:Nat) (x:AV):dE Tryz.prog st 44 (.own s g) x=xJ 87 67 104 (st.heap s g) s g (aR st x):=sN aAL s g x
theorem aT3 {call:Nat→List AV→Option AV} {ops:Array Oper} {st:St} {T:Nat} {pos:String} {eP:Array Edge} (d:Nat) (x:Operand):cF Tryz.prog call ops ⟨some d,.buildSlice 44 1 #[(0,x)],T,pos,eP,none⟩ st=K5 67 (st.ev x) (fun cs=>some ((st.new d (.row 87 67 1 cs)).put (some d) (.own d (st.aP d)))) (cF Tryz.prog call ops ⟨some d,.buildSlice 44 1 #[(0,x)],T,pos,eP,none⟩ st):=Ff aAL aMK (by rfl) (by decide) d x
theorem aT4 (st:St) (x:AV):dE Tryz.prog st 45 (.v (.slice none 0 0)) x=xY 74 238 336 (aR st x):=uK oR x
theorem aT5 (st:St) (s g:Nat) (x:AV):dE Tryz.prog st 45 (.own s g) x=xJ 74 238 336 (st.heap s g) s g (aR st x):=sN oR s g x
theorem aT6 (st:St) (s g:Nat) (kk:IntKind) (i:Int):bF Tryz.prog st 45 (.own s g) (.v (.int kk i))=PO 74 238 (st.heap s g) s g i:=Pg aIi oR s g kk i
theorem aT7 {call:Nat→List AV→Option AV} {ops:Array Oper} {st:St} {T:Nat} {pos:String} {eP:Array Edge} (d:Nat):cF Tryz.prog call ops ⟨some d,.buildSlice 45 0 #[],T,pos,eP,none⟩ st=some ((st.new d (.row 74 238 0 [])).put (some d) (.own d (st.aP d))):=Rt oR aHl d
theorem aT8 {call:Nat→List AV→Option AV} {ops:Array Oper} {st:St} {T:Nat} {pos:String} {eP:Array Edge} (d:Nat) (x:Operand):cF Tryz.prog call ops ⟨some d,.buildSlice 45 1 #[(0,x)],T,pos,eP,none⟩ st=K5 238 (st.ev x) (fun cs=>some ((st.new d (.row 74 238 1 cs)).put (some d) (.own d (st.aP d)))) (cF Tryz.prog call ops ⟨some d,.buildSlice 45 1 #[(0,x)],T,pos,eP,none⟩ st):=Ff oR aHl (by rfl) (by decide) d x
theorem aT9 {call:Nat→List AV→Option AV} {ops:Array Oper} {st:St} {T:Nat} {pos:String} {eP:Array Edge} (d:Nat):cF Tryz.prog call ops ⟨some d,.buildSlice 48 0 #[],T,pos,eP,none⟩ st=some ((st.new d (.row 76 240 0 [])).put (some d) (.own d (st.aP d))):=Rt RC aHq d
theorem aUa (st:St) (x:AV):dE Tryz.prog st 51 (.v (.slice none 0 0)) x=xY 118 34 64 (aR st x):=uK KE x
theorem aUb (st:St) (s g:Nat) (x:AV):dE Tryz.prog st 51 (.own s g) x=xJ 118 34 64 (st.heap s g) s g (aR st x):=sN KE s g x
theorem aUc {call:Nat→List AV→Option AV} {ops:Array Oper} {st:St} {T:Nat} {pos:String} {eP:Array Edge} (d:Nat) (x:Operand):cF Tryz.prog call ops ⟨some d,.buildSlice 51 1 #[(0,x)],T,pos,eP,none⟩ st=K5 34 (st.ev x) (fun cs=>some ((st.new d (.row 118 34 1 cs)).put (some d) (.own d (st.aP d)))) (cF Tryz.prog call ops ⟨some d,.buildSlice 51 1 #[(0,x)],T,pos,eP,none⟩ st):=Ff KE aFl (by rfl) (by decide) d x
theorem aUd (st:St) (x:AV):dE Tryz.prog st 54 (.v (.slice none 0 0)) x=xY 63 35 56 (aR st x):=uK xX x
theorem aUe (st:St) (s g:Nat) (x:AV):dE Tryz.prog st 54 (.own s g) x=xJ 63 35 56 (st.heap s g) s g (aR st x):=sN xX s g x
theorem aUf (st:St) (s g:Nat) (kk:IntKind) (i:Int):bF Tryz.prog st 54 (.own s g) (.v (.int kk i))=PO 63 35 (st.heap s g) s g i:=Pg aIk xX s g kk i
theorem aUg {call:Nat→List AV→Option AV} {ops:Array Oper} {st:St} {T:Nat} {pos:String} {eP:Array Edge} (d:Nat):cF Tryz.prog call ops ⟨some d,.buildSlice 54 0 #[],T,pos,eP,none⟩ st=some ((st.new d (.row 63 35 0 [])).put (some d) (.own d (st.aP d))):=Rt xX T6 d
theorem aUh {call:Nat→List AV→Option AV} {ops:Array Oper} {st:St} {T:Nat} {pos:String} {eP:Array Edge} (d:Nat) (x:Operand):cF Tryz.prog call ops ⟨some d,.buildSlice 54 1 #[(0,x)],T,pos,eP,none⟩ st=K5 35 (st.ev x) (fun cs=>some ((st.new d (.row 63 35 1 cs)).put (some d) (.own d (st.aP d)))) (cF Tryz.prog call ops ⟨some d,.buildSlice 54 1 #[(0,x)],T,pos,eP,none⟩ st):=Ff xX T6 (by rfl) (by decide) d x
theorem aUi (st:St) (s g:Nat) (x:AV):dE Tryz.prog st 70 (.own s g) x=xJ 27 32 32 (st.heap s g) s g (aR st x):=sN aDJ s g x
theorem aUj {call:Nat→List AV→Option AV} {ops:Array Oper} {st:St} {T:Nat} {pos:String} {eP:Array Edge} (d:Nat) (x:Operand):cF Tryz.prog call ops ⟨some d,.buildSlice 70 1 #[(0,x)],T,pos,eP,none⟩ st=K5 32 (st.ev x) (fun cs=>some ((st.new d (.row 27 32 1 cs)).put (some d) (.own d (st.aP d)))) (cF Tryz.prog call ops ⟨some d,.buildSlice 70 1 #[(0,x)],T,pos,eP,none⟩ st):=Ff aDJ aMC (by rfl) (by decide) d x
theorem aNj (st:St) (s g:Nat) (kk:IntKind) (i:Int):bF Tryz.prog st 109 (.own s g) (.v (.int kk i))=PO 41 33 (st.heap s g) s g i:=Pg aFn N3 s g kk i
theorem aNk (st:St) (x:AV):dE Tryz.prog st 124 (.v (.slice none 0 0)) x=xY 190 446 720 (aR st x):=uK ZU x
theorem aNl (st:St) (s g:Nat) (x:AV):dE Tryz.prog st 124 (.own s g) x=xJ 190 446 720 (st.heap s g) s g (aR st x):=sN ZU s g x
theorem aNm {call:Nat→List AV→Option AV} {ops:Array Oper} {st:St} {T:Nat} {pos:String} {eP:Array Edge} (d:Nat) (x:Operand):cF Tryz.prog call ops ⟨some d,.buildSlice 124 1 #[(0,x)],T,pos,eP,none⟩ st=K5 446 (st.ev x) (fun cs=>some ((st.new d (.row 190 446 1 cs)).put (some d) (.own d (st.aP d)))) (cF Tryz.prog call ops ⟨some d,.buildSlice 124 1 #[(0,x)],T,pos,eP,none⟩ st):=Ff ZU aFm (by rfl) (by decide) d x
theorem aNn {call:Nat→List AV→Option AV} {ops:Array Oper} {st:St} {T:Nat} {pos:String} {eP:Array Edge} (d:Nat) (x:Operand):cF Tryz.prog call ops ⟨some d,.buildSlice 181 1 #[(0,x)],T,pos,eP,none⟩ st=K5 96 (st.ev x) (fun cs=>some ((st.new d (.row 56 96 1 cs)).put (some d) (.own d (st.aP d)))) (cF Tryz.prog call ops ⟨some d,.buildSlice 181 1 #[(0,x)],T,pos,eP,none⟩ st):=Ff aFo aMX (by rfl) (by decide) d x
theorem aNo (st:St) (x:AV):dE Tryz.prog st 236 (.v (.slice none 0 0)) x=xY 5 1 1 (aR st x):=uK ZV x
theorem aNp (st:St) (s g:Nat) (x:AV):dE Tryz.prog st 236 (.own s g) x=xJ 5 1 1 (st.heap s g) s g (aR st x):=sN ZV s g x
theorem aNq {call:Nat→List AV→Option AV} {ops:Array Oper} {st:St} {T:Nat} {pos:String} {eP:Array Edge} (d:Nat) (x:Operand):cF Tryz.prog call ops ⟨some d,.buildSlice 236 1 #[(0,x)],T,pos,eP,none⟩ st=elV (st.ev x) (fun y=>some ((st.new d (.row 5 1 1 [.v y])).put (some d) (.own d (st.aP d)))) (cF Tryz.prog call ops ⟨some d,.buildSlice 236 1 #[(0,x)],T,pos,eP,none⟩ st):=IV ZV ze5 d x
theorem aNr (st:St) (x:AV):dE Tryz.prog st 262 (.v (.slice none 0 0)) x=xY 4 1 1 (aR st x):=uK RE x
theorem aNs (st:St) (s g:Nat) (x:AV):dE Tryz.prog st 262 (.own s g) x=xJ 4 1 1 (st.heap s g) s g (aR st x):=sN RE s g x
theorem aNt {call:Nat→List AV→Option AV} {ops:Array Oper} {st:St} {T:Nat} {pos:String} {eP:Array Edge} (d:Nat) (x:Operand):cF Tryz.prog call ops ⟨some d,.buildSlice 262 1 #[(0,x)],T,pos,eP,none⟩ st=elV (st.ev x) (fun y=>some ((st.new d (.row 4 1 1 [.v y])).put (some d) (.own d (st.aP d)))) (cF Tryz.prog call ops ⟨some d,.buildSlice 262 1 #[(0,x)],T,pos,eP,none⟩ st):=IV RE ze4 d x
theorem ok6:bJ Tryz.f6=true:=by kernel_rfl
theorem aQP:bJ Tryz.f24=true:=by kernel_rfl
theorem aQk:tN Tryz.f25=true:=by kernel_rfl
theorem aMm:tN Tryz.f26=true:=by kernel_rfl
theorem aQE:tN Tryz.f27=true:=by kernel_rfl
theorem aRq:bJ Tryz.f28=true:=by kernel_rfl
theorem aRt:bJ Tryz.f29=true:=by kernel_rfl
theorem aOa:bJ Tryz.f30=true:=by kernel_rfl
theorem aQf:bJ Tryz.f32=true:=by kernel_rfl
theorem aOq:bJ Tryz.f34=true:=by kernel_rfl
theorem aRy:tN Tryz.f35=true:=by kernel_rfl
theorem aQe:bJ Tryz.f36=true:=by kernel_rfl
theorem aQj:bJ Tryz.f37=true:=by kernel_rfl
theorem aO3:bJ Tryz.f39=true:=by kernel_rfl
theorem aO0:bJ Tryz.f40=true:=by kernel_rfl
theorem aRo:tN Tryz.f42=true:=by kernel_rfl
theorem aPh:bJ Tryz.f44=true:=by kernel_rfl
theorem aP0:bJ Tryz.f45=true:=by kernel_rfl
theorem aUk:bJ Tryz.f46=true:=by kernel_rfl
theorem aUl:bJ Tryz.f47=true:=by kernel_rfl
theorem aNu:bJ Tryz.f49=true:=by kernel_rfl
theorem aQl:tN Tryz.f50=true:=by kernel_rfl
theorem aO6:bJ Tryz.f52=true:=by kernel_rfl
theorem aO2:bJ Tryz.f54=true:=by kernel_rfl
theorem aO8:tN Tryz.f59=true:=by kernel_rfl
theorem aO9:tN Tryz.f61=true:=by kernel_rfl
theorem aOB:bJ Tryz.f64=true:=by kernel_rfl
theorem aOV:bJ Tryz.f65=true:=by kernel_rfl
theorem aO7:bJ Tryz.f67=true:=by kernel_rfl
theorem aO4:bJ Tryz.f69=true:=by kernel_rfl
theorem aQz:bJ Tryz.f72=true:=by kernel_rfl
theorem aQy:tN Tryz.f74=true:=by kernel_rfl
theorem aQO:tN Tryz.f75=true:=by kernel_rfl
theorem aNv:bJ Tryz.f76=true:=by kernel_rfl
theorem aMl:bJ Tryz.f77=true:=by kernel_rfl
theorem aRn:bJ Tryz.f78=true:=by kernel_rfl
theorem aRm:bJ Tryz.f79=true:=by kernel_rfl
theorem aRl:bJ Tryz.f80=true:=by kernel_rfl
theorem aRk:bJ Tryz.f81=true:=by kernel_rfl
theorem aRp:bJ Tryz.f82=true:=by kernel_rfl
theorem aRr:bJ Tryz.f83=true:=by kernel_rfl
theorem aQa:bJ Tryz.f85=true:=by kernel_rfl
theorem aQb:bJ Tryz.f86=true:=by kernel_rfl
theorem aUm:bJ Tryz.f87=true:=by kernel_rfl
theorem aRx:bJ Tryz.f88=true:=by kernel_rfl
theorem aOv:bJ Tryz.f89=true:=by kernel_rfl
theorem aQc:bJ Tryz.f91=true:=by kernel_rfl
theorem aP3:bJ Tryz.f92=true:=by kernel_rfl
theorem aOO:bJ Tryz.f97=true:=by kernel_rfl
theorem aOP:bJ Tryz.f98=true:=by kernel_rfl
theorem aOR:bJ Tryz.f99=true:=by kernel_rfl
theorem aJp:bJ Tryz.f100=true:=by kernel_rfl
theorem aLN:bJ Tryz.f101=true:=by kernel_rfl
theorem aK4:bJ Tryz.f102=true:=by kernel_rfl
theorem aEH:bJ Tryz.f103=true:=by kernel_rfl
theorem aMh:bJ Tryz.f104=true:=by kernel_rfl
theorem aEG:bJ Tryz.f105=true:=by kernel_rfl
theorem aJs:bJ Tryz.f106=true:=by kernel_rfl
theorem aMj:bJ Tryz.f107=true:=by kernel_rfl
theorem aEI:bJ Tryz.f108=true:=by kernel_rfl
theorem aL9:bJ Tryz.f109=true:=by kernel_rfl
theorem aKp:bJ Tryz.f110=true:=by kernel_rfl
theorem aLy:bJ Tryz.f111=true:=by kernel_rfl
theorem aJ7:bJ Tryz.f114=true:=by kernel_rfl
theorem aKm:bJ Tryz.f117=true:=by kernel_rfl
theorem aJW:bJ Tryz.f122=true:=by kernel_rfl
theorem aJY:bJ Tryz.f128=true:=by kernel_rfl
theorem aEu:bJ Tryz.f130=true:=by kernel_rfl
theorem aKb:bJ Tryz.f131=true:=by kernel_rfl
theorem aJU:bJ Tryz.f137=true:=by kernel_rfl
theorem aLC:bJ Tryz.f143=true:=by kernel_rfl
theorem aLY:bJ Tryz.f144=true:=by kernel_rfl
theorem aJf:bJ Tryz.f145=true:=by kernel_rfl
theorem aLL:bJ Tryz.f146=true:=by kernel_rfl
theorem aLU:bJ Tryz.f147=true:=by kernel_rfl
theorem aE3:bJ Tryz.f148=true:=by kernel_rfl
theorem aJh:bJ Tryz.f149=true:=by kernel_rfl
theorem aJy:bJ Tryz.f150=true:=by kernel_rfl
theorem aJw:bJ Tryz.f151=true:=by kernel_rfl
theorem aJm:bJ Tryz.f155=true:=by kernel_rfl
theorem aJn:bJ Tryz.f156=true:=by kernel_rfl
theorem aJg:bJ Tryz.f157=true:=by kernel_rfl
theorem aKi:bJ Tryz.f158=true:=by kernel_rfl
theorem aEJ:bJ Tryz.f159=true:=by kernel_rfl
theorem aEZ:bJ Tryz.f160=true:=by kernel_rfl
theorem aL8:bJ Tryz.f161=true:=by kernel_rfl
theorem aL5:bJ Tryz.f162=true:=by kernel_rfl
theorem aL2:bJ Tryz.f163=true:=by kernel_rfl
theorem aE2:bJ Tryz.f164=true:=by kernel_rfl
theorem aJG:bJ Tryz.f165=true:=by kernel_rfl
theorem aL7:bJ Tryz.f166=true:=by kernel_rfl
theorem aJ6:bJ Tryz.f169=true:=by kernel_rfl
theorem aJ4:bJ Tryz.f170=true:=by kernel_rfl
theorem aKl:bJ Tryz.f172=true:=by kernel_rfl
theorem aEs:bJ Tryz.f175=true:=by kernel_rfl
theorem aJ1:bJ Tryz.f176=true:=by kernel_rfl
theorem aK1:tN Tryz.f181=true:=by kernel_rfl
theorem aLA:bJ Tryz.f182=true:=by kernel_rfl
theorem aLB:bJ Tryz.f183=true:=by kernel_rfl
theorem aLw:tN Tryz.f184=true:=by kernel_rfl
theorem aLS:bJ Tryz.f185=true:=by kernel_rfl
theorem aNw:bJ Tryz.f186=true:=by kernel_rfl
theorem aJj:bJ Tryz.f188=true:=by kernel_rfl
theorem aJl:bJ Tryz.f189=true:=by kernel_rfl
theorem aE0:bJ Tryz.f190=true:=by kernel_rfl
theorem aE1:bJ Tryz.f191=true:=by kernel_rfl
theorem aJF:bJ Tryz.f192=true:=by kernel_rfl
theorem aL6:bJ Tryz.f193=true:=by kernel_rfl
theorem aL3:bJ Tryz.f194=true:=by kernel_rfl
theorem aKk:tN Tryz.f195=true:=by kernel_rfl
theorem aJo:bJ Tryz.f196=true:=by kernel_rfl
theorem aKZ:bJ Tryz.f199=true:=by kernel_rfl
theorem aLv:bJ Tryz.f200=true:=by kernel_rfl
theorem aLf:bJ Tryz.f201=true:=by kernel_rfl
theorem aLH:tN Tryz.f202=true:=by kernel_rfl
theorem aLR:bJ Tryz.f203=true:=by kernel_rfl
theorem aKT:bJ Tryz.f204=true:=by kernel_rfl
theorem aKS:bJ Tryz.f205=true:=by kernel_rfl
theorem aEV:bJ Tryz.f206=true:=by kernel_rfl
theorem aKY:bJ Tryz.f208=true:=by kernel_rfl
theorem aKw:bJ Tryz.f209=true:=by kernel_rfl
theorem aLp:tN Tryz.f210=true:=by kernel_rfl
theorem aLr:tN Tryz.f211=true:=by kernel_rfl
theorem aLs:bJ Tryz.f212=true:=by kernel_rfl
theorem aLt:tN Tryz.f213=true:=by kernel_rfl
theorem aLu:tN Tryz.f214=true:=by kernel_rfl
theorem aEF:bJ Tryz.f215=true:=by kernel_rfl
theorem aLe:bJ Tryz.f216=true:=by kernel_rfl
theorem aKs:bJ Tryz.f217=true:=by kernel_rfl
theorem aKo:bJ Tryz.f218=true:=by kernel_rfl
theorem aKR:bJ Tryz.f219=true:=by kernel_rfl
theorem aKQ:bJ Tryz.f220=true:=by kernel_rfl
theorem aKO:bJ Tryz.f221=true:=by kernel_rfl
theorem aJR:bJ Tryz.f222=true:=by kernel_rfl
theorem aKG:bJ Tryz.f223=true:=by kernel_rfl
theorem aKL:bJ Tryz.f224=true:=by kernel_rfl
theorem aKV:bJ Tryz.f225=true:=by kernel_rfl
theorem aK8:bJ Tryz.f226=true:=by kernel_rfl
theorem aLm:bJ Tryz.f227=true:=by kernel_rfl
theorem aK9:tN Tryz.f228=true:=by kernel_rfl
theorem aLn:bJ Tryz.f229=true:=by kernel_rfl
theorem aLo:bJ Tryz.f230=true:=by kernel_rfl
theorem aEL:tN Tryz.f231=true:=by kernel_rfl
theorem aLd:bJ Tryz.f232=true:=by kernel_rfl
theorem aJ8:bJ Tryz.f233=true:=by kernel_rfl
theorem aKv:bJ Tryz.f234=true:=by kernel_rfl
theorem aKy:tN Tryz.f235=true:=by kernel_rfl
theorem aJL:bJ Tryz.f236=true:=by kernel_rfl
theorem aJP:bJ Tryz.f237=true:=by kernel_rfl
theorem aJM:bJ Tryz.f238=true:=by kernel_rfl
theorem aKu:bJ Tryz.f239=true:=by kernel_rfl
theorem aKx:bJ Tryz.f240=true:=by kernel_rfl
theorem aKE:bJ Tryz.f241=true:=by kernel_rfl
theorem aKF:bJ Tryz.f242=true:=by kernel_rfl
theorem aKB:bJ Tryz.f243=true:=by kernel_rfl
theorem aEz:bJ Tryz.f244=true:=by kernel_rfl
theorem aJB:bJ Tryz.f245=true:=by kernel_rfl
theorem aLk:bJ Tryz.f246=true:=by kernel_rfl
theorem aJK:bJ Tryz.f247=true:=by kernel_rfl
theorem aKA:bJ Tryz.f248=true:=by kernel_rfl
theorem aKJ:bJ Tryz.f249=true:=by kernel_rfl
theorem aKt:bJ Tryz.f250=true:=by kernel_rfl
theorem aJT:bJ Tryz.f251=true:=by kernel_rfl
theorem aKH:bJ Tryz.f252=true:=by kernel_rfl
end Go.Ab.Tryz
