/-
  Part 8 of the proof: an evaluator of programs, its soundness, and what functions of this program compute.
-/
import Derived.Test.YtmcjkemalibacaaGreatK7
import Derived.Test.YtmcjkemalibacaaGreatProg
import Derived.KernelRfl
set_option linter.all false
set_option maxRecDepth 20000
set_option maxHeartbeats 40000000
namespace Go.Ab.Tryz
open Classical Go.Proofs Go.Ab
theorem mixed:Tryz.prog.follows .mixedOrders=true:=by kernel_rfl
theorem ld3 (cs:List AV) (o:Nat):fD Tryz.prog 3 cs o=cs[o]?:=by
 have:fL Tryz.prog 3=some (false,1):=by kernel_rfl
 simp only[fD,this]
theorem ik3:intKind Tryz.prog 3=some .i64:=by kernel_rfl
theorem lk3:sQ Tryz.prog 3=some 1:=by kernel_rfl
theorem ze3:dS Tryz.prog 3=some [.int .i64 0]:=by kernel_rfl
theorem aQB (cs:List AV) (o:Nat):fD Tryz.prog 23 cs o=cs[o]?:=by
 have:fL Tryz.prog 23=some (false,1):=by kernel_rfl
 simp only[fD,this]
theorem aQC:intKind Tryz.prog 23=some .u64:=by kernel_rfl
theorem RX:sQ Tryz.prog 23=some 1:=by kernel_rfl
theorem aFY:dS Tryz.prog 23=some [.int .u64 0]:=by kernel_rfl
theorem aQD:intKind Tryz.prog 61=some .u64:=by kernel_rfl
theorem aQE:sQ Tryz.prog 61=some 1:=by kernel_rfl
theorem aQF:dS Tryz.prog 61=some [.int .u64 0]:=by kernel_rfl
theorem ld5 (cs:List AV) (o:Nat):fD Tryz.prog 5 cs o=cs[o]?:=by
 have:fL Tryz.prog 5=some (false,1):=by kernel_rfl
 simp only[fD,this]
theorem ik5:intKind Tryz.prog 5=some .u8:=by kernel_rfl
theorem lk5:sQ Tryz.prog 5=some 1:=by kernel_rfl
theorem ze5:dS Tryz.prog 5=some [.int .u8 0]:=by kernel_rfl
theorem ik2:intKind Tryz.prog 2=some .i64:=by kernel_rfl
theorem lk2:sQ Tryz.prog 2=some 1:=by kernel_rfl
theorem ze2:dS Tryz.prog 2=some [.int .i64 0]:=by kernel_rfl
theorem aQG:intKind Tryz.prog 64=some .i64:=by kernel_rfl
theorem aQH:sQ Tryz.prog 64=some 1:=by kernel_rfl
theorem aQI:dS Tryz.prog 64=some [.int .i64 0]:=by kernel_rfl
theorem ld4 (cs:List AV) (o:Nat):fD Tryz.prog 4 cs o=cs[o]?:=by
 have:fL Tryz.prog 4=some (false,1):=by kernel_rfl
 simp only[fD,this]
theorem lk4:sQ Tryz.prog 4=some 1:=by kernel_rfl
theorem ze4:dS Tryz.prog 4=some [.bool false]:=by kernel_rfl
theorem aQJ (cs:List AV) (o:Nat) (h:32≤cs.length-o):fD Tryz.prog 27 cs o=some (.agg (rd cs o 32)):=by
 have:fL Tryz.prog 27=some (true,32):=by kernel_rfl
 simp[fD,this,h]
theorem aI9:sQ Tryz.prog 27=some 32:=by kernel_rfl
theorem aLx:dS Tryz.prog 27=some sT:=by kernel_rfl
theorem aFZ (a b:cC):Bq Tryz.prog 27 (aV a) (aV b)=some (decide (a=b)):=Cr (l:=Hh) (by kernel_rfl) (by kernel_rfl) (by kernel_rfl) (mW a b) (pH a b)
theorem aQK (a b:cC):gQ Tryz.prog .eql 27 (.agg (aV a)) (.agg (aV b))=some (.v (.bool (decide (a=b)))):=by simp only[gQ,aFZ,Option.map_some]
theorem aQL (a b:cC):gQ Tryz.prog .neq 27 (.agg (aV a)) (.agg (aV b))=some (.v (.bool (!(decide (a=b))))):=by simp only[gQ,aFZ,Option.map_some]
theorem aEJ:jB Tryz.prog 27=some (32,1):=by kernel_rfl
theorem aQM (st:St) (parts:List (Nat × Operand)):iO Tryz.prog st 27 parts=if (parts.all fun p=>(st.ev p.2).jG)=true then (gJ (fun i=>some (i * 1,1)) (aV dI) (parts.map fun p=>(p.1,st.ev p.2))).map .agg else none:=gW (z:=sT) (by kernel_rfl) jC (Sq (by kernel_rfl))
theorem aQN (cs:List AV) (o:Nat) (h:4≤cs.length-o):fD Tryz.prog 33 cs o=some (.agg (rd cs o 4)):=by
 have:fL Tryz.prog 33=some (true,4):=by kernel_rfl
 simp[fD,this,h]
theorem aQO:sQ Tryz.prog 33=some 4:=by kernel_rfl
theorem aQP:dS Tryz.prog 33=some Yh:=by kernel_rfl
theorem aIS:jB Tryz.prog 33=some (4,1):=by kernel_rfl
theorem aQQ (st:St) (parts:List (Nat × Operand)):iO Tryz.prog st 33 parts=if (parts.all fun p=>(st.ev p.2).jG)=true then (gJ (fun i=>some (i * 1,1)) (gI EE) (parts.map fun p=>(p.1,st.ev p.2))).map .agg else none:=gW (z:=Yh) (by kernel_rfl) jD (Sq (by kernel_rfl))
theorem aQR (cs:List AV) (o:Nat) (h:33≤cs.length-o):fD Tryz.prog 41 cs o=some (.agg (rd cs o 33)):=by
 have:fL Tryz.prog 41=some (true,33):=by kernel_rfl
 simp[fD,this,h]
theorem aQS:sQ Tryz.prog 41=some 33:=by kernel_rfl
theorem aF0:aU Tryz.prog 41 0=some 0:=by kernel_rfl
theorem aF1:aU Tryz.prog 41 1=some 1:=by kernel_rfl
theorem aI8:dS Tryz.prog 41=some Cb:=by kernel_rfl
theorem aF2 (a b:fK):Bq Tryz.prog 41 (bV a) (bV b)=some (decide (a=b)):=Cr (l:=EF) (by kernel_rfl) (by kernel_rfl) (by kernel_rfl) (yW a b) (pF a b)
theorem aQT (a b:fK):gQ Tryz.prog .eql 41 (.agg (bV a)) (.agg (bV b))=some (.v (.bool (decide (a=b)))):=by simp only[gQ,aF2,Option.map_some]
theorem aQU (a b:fK):gQ Tryz.prog .neq 41 (.agg (bV a)) (.agg (bV b))=some (.v (.bool (!(decide (a=b))))):=by simp only[gQ,aF2,Option.map_some]
theorem aQV (st:St) (parts:List (Nat × Operand)):iO Tryz.prog st 41 parts=if (parts.all fun p=>(st.ev p.2).jG)=true then (gJ (fun i=>([(0,1),(1,32)]:List (Nat × Nat))[i]?) (bV gR) (parts.map fun p=>(p.1,st.ev p.2))).map .agg else none:=gW (z:=Cb) (by kernel_rfl) Ae (eM (by kernel_rfl))
theorem aQW (cs:List AV) (o:Nat) (h:66≤cs.length-o):fD Tryz.prog 72 cs o=some (.agg (rd cs o 66)):=by
 have:fL Tryz.prog 72=some (true,66):=by kernel_rfl
 simp[fD,this,h]
theorem aQX:sQ Tryz.prog 72=some 66:=by kernel_rfl
theorem aF3:aU Tryz.prog 72 0=some 0:=by kernel_rfl
theorem aF4:aU Tryz.prog 72 1=some 33:=by kernel_rfl
theorem aQY:dS Tryz.prog 72=some Oi:=by kernel_rfl
theorem aQZ (st:St) (parts:List (Nat × Operand)):iO Tryz.prog st 72 parts=if (parts.all fun p=>(st.ev p.2).jG)=true then (gJ (fun i=>([(0,33),(33,33)]:List (Nat × Nat))[i]?) (eZ My) (parts.map fun p=>(p.1,st.ev p.2))).map .agg else none:=gW (z:=Oi) (by kernel_rfl) Qv (eM (by kernel_rfl))
theorem aQ0 (cs:List AV) (o:Nat) (h:238≤cs.length-o):fD Tryz.prog 74 cs o=some (.agg (rd cs o 238)):=by
 have:fL Tryz.prog 74=some (true,238):=by kernel_rfl
 simp[fD,this,h]
theorem SU:sQ Tryz.prog 74=some 238:=by kernel_rfl
theorem aF5:aU Tryz.prog 74 0=some 0:=by kernel_rfl
theorem aF6:aU Tryz.prog 74 1=some 66:=by kernel_rfl
theorem aF7:aU Tryz.prog 74 2=some 67:=by kernel_rfl
theorem aF8:aU Tryz.prog 74 3=some 99:=by kernel_rfl
theorem aF9:aU Tryz.prog 74 4=some 131:=by kernel_rfl
theorem aGa:aU Tryz.prog 74 5=some 163:=by kernel_rfl
theorem aGb:aU Tryz.prog 74 6=some 167:=by kernel_rfl
theorem aGc:aU Tryz.prog 74 7=some 171:=by kernel_rfl
theorem aGd:aU Tryz.prog 74 8=some 204:=by kernel_rfl
theorem aGe:aU Tryz.prog 74 9=some 237:=by kernel_rfl
theorem aGf:dS Tryz.prog 74=some Qy:=by kernel_rfl
theorem aLy (a b:Block):Bq Tryz.prog 74 (aT a) (aT b)=some (decide (a=b)):=Cr (l:=US) (by kernel_rfl) (by kernel_rfl) (by kernel_rfl) (Sr a b) (UT a b)
theorem aQ1 (a b:Block):gQ Tryz.prog .eql 74 (.agg (aT a)) (.agg (aT b))=some (.v (.bool (decide (a=b)))):=by simp only[gQ,aLy,Option.map_some]
theorem aQ2 (st:St) (parts:List (Nat × Operand)):iO Tryz.prog st 74 parts=if (parts.all fun p=>(st.ev p.2).jG)=true then (gJ (fun i=>([(0,66),(66,1),(67,32),(99,32),(131,32),(163,4),(167,4),(171,33),(204,33),(237,1)]:List (Nat × Nat))[i]?) (aT eQ) (parts.map fun p=>(p.1,st.ev p.2))).map .agg else none:=gW (z:=Qy) (by kernel_rfl) Ol (eM (by kernel_rfl))
theorem aQ3 (cs:List AV) (o:Nat) (h:240≤cs.length-o):fD Tryz.prog 76 cs o=some (.agg (rd cs o 240)):=by
 have:fL Tryz.prog 76=some (true,240):=by kernel_rfl
 simp[fD,this,h]
theorem aQ4:sQ Tryz.prog 76=some 240:=by kernel_rfl
theorem aGg:aU Tryz.prog 76 0=some 0:=by kernel_rfl
theorem aGh:aU Tryz.prog 76 1=some 238:=by kernel_rfl
theorem aGi:aU Tryz.prog 76 2=some 239:=by kernel_rfl
theorem aGj:dS Tryz.prog 76=some Yl:=by kernel_rfl
theorem aQ5 (st:St) (parts:List (Nat × Operand)):iO Tryz.prog st 76 parts=if (parts.all fun p=>(st.ev p.2).jG)=true then (gJ (fun i=>([(0,238),(238,1),(239,1)]:List (Nat × Nat))[i]?) (fW YC) (parts.map fun p=>(p.1,st.ev p.2))).map .agg else none:=gW (z:=Yl) (by kernel_rfl) HS (eM (by kernel_rfl))
theorem aQ6 (cs:List AV) (o:Nat) (h:1≤cs.length-o):fD Tryz.prog 50 cs o=some (.agg (rd cs o 1)):=by
 have:fL Tryz.prog 50=some (true,1):=by kernel_rfl
 simp[fD,this,h]
theorem aQ7:sQ Tryz.prog 50=some 1:=by kernel_rfl
theorem aGk:aU Tryz.prog 50 0=some 0:=by kernel_rfl
theorem aQ8:dS Tryz.prog 50=some [.slice none 0 0]:=by kernel_rfl
theorem aQ9 (st:St) (parts:List (Nat × Operand)):iO Tryz.prog st 50 parts=if (parts.all fun p=>(st.ev p.2).jG)=true then (gJ (fun i=>([(0,1)]:List (Nat × Nat))[i]?) [.v (.slice none 0 0)] (parts.map fun p=>(p.1,st.ev p.2))).map .agg else none:=gW (z:=[.slice none 0 0]) (by kernel_rfl) rfl (eM (by kernel_rfl))
theorem aRa (cs:List AV) (o:Nat) (h:1≤cs.length-o):fD Tryz.prog 25 cs o=some (.agg (rd cs o 1)):=by
 have:fL Tryz.prog 25=some (true,1):=by kernel_rfl
 simp[fD,this,h]
theorem aRb:sQ Tryz.prog 25=some 1:=by kernel_rfl
theorem aGl:aU Tryz.prog 25 0=some 0:=by kernel_rfl
theorem aRc:dS Tryz.prog 25=some Iu:=by kernel_rfl
theorem aRd (st:St) (parts:List (Nat × Operand)):iO Tryz.prog st 25 parts=if (parts.all fun p=>(st.ev p.2).jG)=true then (gJ (fun i=>([(0,1)]:List (Nat × Nat))[i]?) (jN Uq) (parts.map fun p=>(p.1,st.ev p.2))).map .agg else none:=gW (z:=Iu) (by kernel_rfl) Iv (eM (by kernel_rfl))
theorem aRe (cs:List AV) (o:Nat) (h:34≤cs.length-o):fD Tryz.prog 29 cs o=some (.agg (rd cs o 34)):=by
 have:fL Tryz.prog 29=some (true,34):=by kernel_rfl
 simp[fD,this,h]
theorem aRf:sQ Tryz.prog 29=some 34:=by kernel_rfl
theorem aGm:aU Tryz.prog 29 0=some 0:=by kernel_rfl
theorem aGn:aU Tryz.prog 29 1=some 1:=by kernel_rfl
theorem aGo:aU Tryz.prog 29 2=some 2:=by kernel_rfl
theorem aRg:dS Tryz.prog 29=some Cm:=by kernel_rfl
theorem aLz (a b:eR):Bq Tryz.prog 29 (bU a) (bU b)=some (decide (a=b)):=Cr (l:=PE) (by kernel_rfl) (by kernel_rfl) (by kernel_rfl) (BN a b) (HY a b)
theorem aRh (a b:eR):gQ Tryz.prog .eql 29 (.agg (bU a)) (.agg (bU b))=some (.v (.bool (decide (a=b)))):=by simp only[gQ,aLz,Option.map_some]
theorem aRi (st:St) (parts:List (Nat × Operand)):iO Tryz.prog st 29 parts=if (parts.all fun p=>(st.ev p.2).jG)=true then (gJ (fun i=>([(0,1),(1,1),(2,32)]:List (Nat × Nat))[i]?) (bU tO) (parts.map fun p=>(p.1,st.ev p.2))).map .agg else none:=gW (z:=Cm) (by kernel_rfl) Ln (eM (by kernel_rfl))
theorem aRj:sQ Tryz.prog 31=some 6:=by kernel_rfl
theorem aGp:aU Tryz.prog 31 0=some 0:=by kernel_rfl
theorem aGq:aU Tryz.prog 31 1=some 1:=by kernel_rfl
theorem aGr:aU Tryz.prog 31 2=some 2:=by kernel_rfl
theorem aGs:aU Tryz.prog 31 3=some 3:=by kernel_rfl
theorem aGt:aU Tryz.prog 31 4=some 4:=by kernel_rfl
theorem aGu:aU Tryz.prog 31 5=some 5:=by kernel_rfl
theorem aRk:dS Tryz.prog 31=some Ow:=by kernel_rfl
theorem aRl (st:St) (parts:List (Nat × Operand)):iO Tryz.prog st 31 parts=if (parts.all fun p=>(st.ev p.2).jG)=true then (gJ (fun i=>([(0,1),(1,1),(2,1),(3,1),(4,1),(5,1)]:List (Nat × Nat))[i]?) (iJ HZ) (parts.map fun p=>(p.1,st.ev p.2))).map .agg else none:=gW (z:=Ow) (by kernel_rfl) Rf (eM (by kernel_rfl))
theorem aRm (cs:List AV) (o:Nat) (h:45≤cs.length-o):fD Tryz.prog 36 cs o=some (.agg (rd cs o 45)):=by
 have:fL Tryz.prog 36=some (true,45):=by kernel_rfl
 simp[fD,this,h]
theorem aRn:sQ Tryz.prog 36=some 45:=by kernel_rfl
theorem aGv:aU Tryz.prog 36 0=some 0:=by kernel_rfl
theorem aGw:aU Tryz.prog 36 1=some 6:=by kernel_rfl
theorem aGx:aU Tryz.prog 36 2=some 7:=by kernel_rfl
theorem aGy:aU Tryz.prog 36 3=some 8:=by kernel_rfl
theorem aGz:aU Tryz.prog 36 4=some 12:=by kernel_rfl
theorem aGA:aU Tryz.prog 36 5=some 44:=by kernel_rfl
theorem aRo:dS Tryz.prog 36=some Oz:=by kernel_rfl
theorem aRp (st:St) (parts:List (Nat × Operand)):iO Tryz.prog st 36 parts=if (parts.all fun p=>(st.ev p.2).jG)=true then (gJ (fun i=>([(0,6),(6,1),(7,1),(8,4),(12,32),(44,1)]:List (Nat × Nat))[i]?) (bR mO) (parts.map fun p=>(p.1,st.ev p.2))).map .agg else none:=gW (z:=Oz) (by kernel_rfl) Ri (eM (by kernel_rfl))
theorem aLA (cs:List AV) (o:Nat) (h:34≤cs.length-o):fD Tryz.prog 100 cs o=some (.agg (rd cs o 34)):=by
 have:fL Tryz.prog 100=some (true,34):=by kernel_rfl
 simp[fD,this,h]
theorem aDJ:sQ Tryz.prog 100=some 34:=by kernel_rfl
theorem aCB:aU Tryz.prog 100 0=some 0:=by kernel_rfl
theorem aCC:aU Tryz.prog 100 1=some 1:=by kernel_rfl
theorem aCD:aU Tryz.prog 100 2=some 2:=by kernel_rfl
theorem aEl:dS Tryz.prog 100=some YG:=by kernel_rfl
theorem aLB (st:St) (parts:List (Nat × Operand)):iO Tryz.prog st 100 parts=if (parts.all fun p=>(st.ev p.2).jG)=true then (gJ (fun i=>([(0,1),(1,1),(2,32)]:List (Nat × Nat))[i]?) (lV rT) (parts.map fun p=>(p.1,st.ev p.2))).map .agg else none:=gW (z:=YG) (by kernel_rfl) YH (eM (by kernel_rfl))
theorem aRq (cs:List AV) (o:Nat) (h:67≤cs.length-o):fD Tryz.prog 87 cs o=some (.agg (rd cs o 67)):=by
 have:fL Tryz.prog 87=some (true,67):=by kernel_rfl
 simp[fD,this,h]
theorem aRr:sQ Tryz.prog 87=some 67:=by kernel_rfl
theorem aGB:aU Tryz.prog 87 0=some 0:=by kernel_rfl
theorem aGC:aU Tryz.prog 87 1=some 1:=by kernel_rfl
theorem aGD:aU Tryz.prog 87 2=some 33:=by kernel_rfl
theorem aGE:aU Tryz.prog 87 3=some 66:=by kernel_rfl
theorem aLC:dS Tryz.prog 87=some Y5:=by kernel_rfl
theorem aRs (st:St) (parts:List (Nat × Operand)):iO Tryz.prog st 87 parts=if (parts.all fun p=>(st.ev p.2).jG)=true then (gJ (fun i=>([(0,1),(1,32),(33,33),(66,1)]:List (Nat × Nat))[i]?) (iF Ku) (parts.map fun p=>(p.1,st.ev p.2))).map .agg else none:=gW (z:=Y5) (by kernel_rfl) VG (eM (by kernel_rfl))
theorem aLD (cs:List AV) (o:Nat) (h:35≤cs.length-o):fD Tryz.prog 186 cs o=some (.agg (rd cs o 35)):=by
 have:fL Tryz.prog 186=some (true,35):=by kernel_rfl
 simp[fD,this,h]
theorem aLE:sQ Tryz.prog 186=some 35:=by kernel_rfl
theorem aCE:aU Tryz.prog 186 0=some 0:=by kernel_rfl
theorem aCF:aU Tryz.prog 186 1=some 1:=by kernel_rfl
theorem aCG:aU Tryz.prog 186 2=some 2:=by kernel_rfl
theorem aCH:aU Tryz.prog 186 3=some 34:=by kernel_rfl
theorem aLF:dS Tryz.prog 186=some Rj:=by kernel_rfl
theorem aLG (st:St) (parts:List (Nat × Operand)):iO Tryz.prog st 186 parts=if (parts.all fun p=>(st.ev p.2).jG)=true then (gJ (fun i=>([(0,1),(1,1),(2,32),(34,1)]:List (Nat × Nat))[i]?) (gL IE) (parts.map fun p=>(p.1,st.ev p.2))).map .agg else none:=gW (z:=Rj) (by kernel_rfl) Yq (eM (by kernel_rfl))
theorem aLH (cs:List AV) (o:Nat) (h:70≤cs.length-o):fD Tryz.prog 188 cs o=some (.agg (rd cs o 70)):=by
 have:fL Tryz.prog 188=some (true,70):=by kernel_rfl
 simp[fD,this,h]
theorem aLI:sQ Tryz.prog 188=some 70:=by kernel_rfl
theorem aCI:aU Tryz.prog 188 0=some 0:=by kernel_rfl
theorem aCJ:aU Tryz.prog 188 1=some 35:=by kernel_rfl
theorem aLJ:dS Tryz.prog 188=some Cy:=by kernel_rfl
theorem aLK (st:St) (parts:List (Nat × Operand)):iO Tryz.prog st 188 parts=if (parts.all fun p=>(st.ev p.2).jG)=true then (gJ (fun i=>([(0,35),(35,35)]:List (Nat × Nat))[i]?) (bW Rk) (parts.map fun p=>(p.1,st.ev p.2))).map .agg else none:=gW (z:=Cy) (by kernel_rfl) Hn (eM (by kernel_rfl))
theorem aLL (cs:List AV) (o:Nat) (h:34≤cs.length-o):fD Tryz.prog 118 cs o=some (.agg (rd cs o 34)):=by
 have:fL Tryz.prog 118=some (true,34):=by kernel_rfl
 simp[fD,this,h]
theorem aLM:sQ Tryz.prog 118=some 34:=by kernel_rfl
theorem aCK:aU Tryz.prog 118 0=some 0:=by kernel_rfl
theorem aCL:aU Tryz.prog 118 1=some 33:=by kernel_rfl
theorem aEm:dS Tryz.prog 118=some Yr:=by kernel_rfl
theorem aLN (st:St) (parts:List (Nat × Operand)):iO Tryz.prog st 118 parts=if (parts.all fun p=>(st.ev p.2).jG)=true then (gJ (fun i=>([(0,33),(33,1)]:List (Nat × Nat))[i]?) (cN iS) (parts.map fun p=>(p.1,st.ev p.2))).map .agg else none:=gW (z:=Yr) (by kernel_rfl) Ys (eM (by kernel_rfl))
theorem aRt (cs:List AV) (o:Nat) (h:35≤cs.length-o):fD Tryz.prog 63 cs o=some (.agg (rd cs o 35)):=by
 have:fL Tryz.prog 63=some (true,35):=by kernel_rfl
 simp[fD,this,h]
theorem aFf:sQ Tryz.prog 63=some 35:=by kernel_rfl
theorem aGF:aU Tryz.prog 63 0=some 0:=by kernel_rfl
theorem aGG:aU Tryz.prog 63 1=some 1:=by kernel_rfl
theorem aGH:aU Tryz.prog 63 2=some 33:=by kernel_rfl
theorem aGI:aU Tryz.prog 63 3=some 34:=by kernel_rfl
theorem aBA:dS Tryz.prog 63=some Cl:=by kernel_rfl
theorem aLO (a b:Request):Bq Tryz.prog 63 (bM a) (bM b)=some (decide (a=b)):=Cr (l:=PO) (by kernel_rfl) (by kernel_rfl) (by kernel_rfl) (BZ a b) (IJ a b)
theorem aRu (a b:Request):gQ Tryz.prog .neq 63 (.agg (bM a)) (.agg (bM b))=some (.v (.bool (!(decide (a=b))))):=by simp only[gQ,aLO,Option.map_some]
theorem aRv (st:St) (parts:List (Nat × Operand)):iO Tryz.prog st 63 parts=if (parts.all fun p=>(st.ev p.2).jG)=true then (gJ (fun i=>([(0,1),(1,32),(33,1),(34,1)]:List (Nat × Nat))[i]?) (bM bJ) (parts.map fun p=>(p.1,st.ev p.2))).map .agg else none:=gW (z:=Cl) (by kernel_rfl) Yu (eM (by kernel_rfl))
theorem aRw (cs:List AV) (o:Nat) (h:96≤cs.length-o):fD Tryz.prog 56 cs o=some (.agg (rd cs o 96)):=by
 have:fL Tryz.prog 56=some (true,96):=by kernel_rfl
 simp[fD,this,h]
theorem aRx:sQ Tryz.prog 56=some 96:=by kernel_rfl
theorem aGJ:aU Tryz.prog 56 0=some 0:=by kernel_rfl
theorem aGK:aU Tryz.prog 56 1=some 32:=by kernel_rfl
theorem aGL:aU Tryz.prog 56 2=some 64:=by kernel_rfl
theorem aLP:dS Tryz.prog 56=some Ho:=by kernel_rfl
theorem aLQ (a b:Command):Bq Tryz.prog 56 (dZ a) (dZ b)=some (decide (a=b)):=Cr (l:=PQ) (by kernel_rfl) (by kernel_rfl) (by kernel_rfl) (CA a b) (IK a b)
theorem aRy (a b:Command):gQ Tryz.prog .eql 56 (.agg (dZ a)) (.agg (dZ b))=some (.v (.bool (decide (a=b)))):=by simp only[gQ,aLQ,Option.map_some]
theorem aRz (st:St) (parts:List (Nat × Operand)):iO Tryz.prog st 56 parts=if (parts.all fun p=>(st.ev p.2).jG)=true then (gJ (fun i=>([(0,32),(32,32),(64,32)]:List (Nat × Nat))[i]?) (dZ Yy) (parts.map fun p=>(p.1,st.ev p.2))).map .agg else none:=gW (z:=Ho) (by kernel_rfl) Lt (eM (by kernel_rfl))
theorem aRA (cs:List AV) (o:Nat) (h:2≤cs.length-o):fD Tryz.prog 39 cs o=some (.agg (rd cs o 2)):=by
 have:fL Tryz.prog 39=some (true,2):=by kernel_rfl
 simp[fD,this,h]
theorem aRB:sQ Tryz.prog 39=some 2:=by kernel_rfl
theorem aGM:aU Tryz.prog 39 0=some 0:=by kernel_rfl
theorem aGN:aU Tryz.prog 39 1=some 1:=by kernel_rfl
theorem aRC:dS Tryz.prog 39=some Zb:=by kernel_rfl
theorem aRD (st:St) (parts:List (Nat × Operand)):iO Tryz.prog st 39 parts=if (parts.all fun p=>(st.ev p.2).jG)=true then (gJ (fun i=>([(0,1),(1,1)]:List (Nat × Nat))[i]?) (eP Gn) (parts.map fun p=>(p.1,st.ev p.2))).map .agg else none:=gW (z:=Zb) (by kernel_rfl) Zc (eM (by kernel_rfl))
theorem aRE:sQ Tryz.prog 43=some 66:=by kernel_rfl
theorem aGO:aU Tryz.prog 43 0=some 0:=by kernel_rfl
theorem aGP:aU Tryz.prog 43 1=some 33:=by kernel_rfl
theorem aRF:dS Tryz.prog 43=some Db:=by kernel_rfl
theorem aRG (st:St) (parts:List (Nat × Operand)):iO Tryz.prog st 43 parts=if (parts.all fun p=>(st.ev p.2).jG)=true then (gJ (fun i=>([(0,33),(33,33)]:List (Nat × Nat))[i]?) (iN Rp) (parts.map fun p=>(p.1,st.ev p.2))).map .agg else none:=gW (z:=Db) (by kernel_rfl) Hq (eM (by kernel_rfl))
theorem aRH:sQ Tryz.prog 47=some 2:=by kernel_rfl
theorem aGQ:aU Tryz.prog 47 0=some 0:=by kernel_rfl
theorem aGR:aU Tryz.prog 47 1=some 1:=by kernel_rfl
theorem aRI:dS Tryz.prog 47=some Ur:=by kernel_rfl
theorem aRJ (cs:List AV) (o:Nat) (h:150≤cs.length-o):fD Tryz.prog 53 cs o=some (.agg (rd cs o 150)):=by
 have:fL Tryz.prog 53=some (true,150):=by kernel_rfl
 simp[fD,this,h]
theorem aRK:sQ Tryz.prog 53=some 150:=by kernel_rfl
theorem aGS:aU Tryz.prog 53 0=some 0:=by kernel_rfl
theorem aGT:aU Tryz.prog 53 1=some 45:=by kernel_rfl
theorem aGU:aU Tryz.prog 53 2=some 47:=by kernel_rfl
theorem aGV:aU Tryz.prog 53 3=some 113:=by kernel_rfl
theorem aGW:aU Tryz.prog 53 4=some 115:=by kernel_rfl
theorem aGX:aU Tryz.prog 53 5=some 116:=by kernel_rfl
theorem aGY:aU Tryz.prog 53 6=some 117:=by kernel_rfl
theorem aGZ:aU Tryz.prog 53 7=some 149:=by kernel_rfl
theorem aRL:dS Tryz.prog 53=some Zf:=by kernel_rfl
theorem aRM (st:St) (parts:List (Nat × Operand)):iO Tryz.prog st 53 parts=if (parts.all fun p=>(st.ev p.2).jG)=true then (gJ (fun i=>([(0,45),(45,2),(47,66),(113,2),(115,1),(116,1),(117,32),(149,1)]:List (Nat × Nat))[i]?) (aB gE) (parts.map fun p=>(p.1,st.ev p.2))).map .agg else none:=gW (z:=Zf) (by kernel_rfl) Zg (eM (by kernel_rfl))
theorem aRN (cs:List AV) (o:Nat) (h:252≤cs.length-o):fD Tryz.prog 58 cs o=some (.agg (rd cs o 252)):=by
 have:fL Tryz.prog 58=some (true,252):=by kernel_rfl
 simp[fD,this,h]
theorem aRO:sQ Tryz.prog 58=some 252:=by kernel_rfl
theorem aG0:aU Tryz.prog 58 0=some 0:=by kernel_rfl
theorem aG1:aU Tryz.prog 58 1=some 150:=by kernel_rfl
theorem aG2:aU Tryz.prog 58 2=some 151:=by kernel_rfl
theorem aG3:aU Tryz.prog 58 3=some 152:=by kernel_rfl
theorem aG4:aU Tryz.prog 58 4=some 153:=by kernel_rfl
theorem aG5:aU Tryz.prog 58 5=some 154:=by kernel_rfl
theorem aG6:aU Tryz.prog 58 6=some 250:=by kernel_rfl
theorem aG7:aU Tryz.prog 58 7=some 251:=by kernel_rfl
theorem aRP:dS Tryz.prog 58=some IQ:=by kernel_rfl
theorem aRQ (st:St) (parts:List (Nat × Operand)):iO Tryz.prog st 58 parts=if (parts.all fun p=>(st.ev p.2).jG)=true then (gJ (fun i=>([(0,150),(150,1),(151,1),(152,1),(153,1),(154,96),(250,1),(251,1)]:List (Nat × Nat))[i]?) (aF jF) (parts.map fun p=>(p.1,st.ev p.2))).map .agg else none:=gW (z:=IQ) (by kernel_rfl) PS (eM (by kernel_rfl))
theorem aLR (cs:List AV) (o:Nat) (h:446≤cs.length-o):fD Tryz.prog 190 cs o=some (.agg (rd cs o 446)):=by
 have:fL Tryz.prog 190=some (true,446):=by kernel_rfl
 simp[fD,this,h]
theorem aLS:sQ Tryz.prog 190=some 446:=by kernel_rfl
theorem aCM:aU Tryz.prog 190 0=some 0:=by kernel_rfl
theorem aCN:aU Tryz.prog 190 1=some 1:=by kernel_rfl
theorem aCO:aU Tryz.prog 190 2=some 239:=by kernel_rfl
theorem aCP:aU Tryz.prog 190 3=some 306:=by kernel_rfl
theorem aCQ:aU Tryz.prog 190 4=some 376:=by kernel_rfl
theorem aCR:aU Tryz.prog 190 5=some 410:=by kernel_rfl
theorem aCS:aU Tryz.prog 190 6=some 444:=by kernel_rfl
theorem aCT:aU Tryz.prog 190 7=some 445:=by kernel_rfl
theorem aEn:dS Tryz.prog 190=some aCA:=by kernel_rfl
theorem aLT (st:St) (parts:List (Nat × Operand)):iO Tryz.prog st 190 parts=if (parts.all fun p=>(st.ev p.2).jG)=true then (gJ (fun i=>([(0,1),(1,238),(239,67),(306,70),(376,34),(410,34),(444,1),(445,1)]:List (Nat × Nat))[i]?) (kF yO) (parts.map fun p=>(p.1,st.ev p.2))).map .agg else none:=gW (z:=aCA) (by kernel_rfl) Y6 (eM (by kernel_rfl))
theorem aG8 (cs:List AV):Kc Tryz.prog 41 0 (.agg cs)=cs[0]?:=UH (k:=1) (by kernel_rfl)
theorem Kg:dK Tryz.prog 22=some (3,1,8):=by kernel_rfl
theorem aCU:jB Tryz.prog 22=none:=by kernel_rfl
theorem aRR (cs:List AV) (o:Nat):fD Tryz.prog 22 cs o=cs[o]?:=by
 have:fL Tryz.prog 22=some (false,1):=by kernel_rfl
 simp only[fD,this]
theorem aRS:sQ Tryz.prog 22=some 1:=by kernel_rfl
theorem aRT:dS Tryz.prog 22=some [.slice none 0 0]:=by kernel_rfl
theorem aRU (n:Nat) (cs:List AV) (h:cs≠[]):gQ Tryz.prog .eql 22 (.sl n cs) (.v (.slice none 0 0))=some (.v (.bool false)):=by
 have:Tryz.prog.underlying 22=some (.slice 3):=by kernel_rfl
 cases cs with
 | nil=>exact absurd rfl h
 | cons c cs=>simp[gQ,sE,this]
theorem aRV:gQ Tryz.prog .eql 22 (.v (.slice none 0 0)) (.v (.slice none 0 0))=some (.v (.bool true)):=by
 have:Tryz.prog.underlying 22=some (.slice 3):=by kernel_rfl
 simp[gQ,sE,this]
theorem VR:dK Tryz.prog 34=some (23,1,8):=by kernel_rfl
theorem aG9:jB Tryz.prog 34=none:=by kernel_rfl
theorem aRW (cs:List AV) (o:Nat):fD Tryz.prog 34 cs o=cs[o]?:=by
 have:fL Tryz.prog 34=some (false,1):=by kernel_rfl
 simp only[fD,this]
theorem aRX:sQ Tryz.prog 34=some 1:=by kernel_rfl
theorem aRY:dS Tryz.prog 34=some [.slice none 0 0]:=by kernel_rfl
theorem aRZ (n:Nat) (cs:List AV) (h:cs≠[]):gQ Tryz.prog .eql 34 (.sl n cs) (.v (.slice none 0 0))=some (.v (.bool false)):=by
 have:Tryz.prog.underlying 34=some (.slice 23):=by kernel_rfl
 cases cs with
 | nil=>exact absurd rfl h
 | cons c cs=>simp[gQ,sE,this]
theorem aR0:gQ Tryz.prog .eql 34 (.v (.slice none 0 0)) (.v (.slice none 0 0))=some (.v (.bool true)):=by
 have:Tryz.prog.underlying 34=some (.slice 23):=by kernel_rfl
 simp[gQ,sE,this]
theorem C2:dK Tryz.prog 37=some (100,34,48):=by kernel_rfl
theorem aHa:jB Tryz.prog 37=none:=by kernel_rfl
theorem aR1 (cs:List AV) (o:Nat):fD Tryz.prog 37 cs o=cs[o]?:=by
 have:fL Tryz.prog 37=some (false,1):=by kernel_rfl
 simp only[fD,this]
theorem aR2:sQ Tryz.prog 37=some 1:=by kernel_rfl
theorem aR3:dS Tryz.prog 37=some [.slice none 0 0]:=by kernel_rfl
theorem aR4 (n:Nat) (cs:List AV) (h:cs≠[]):gQ Tryz.prog .eql 37 (.sl n cs) (.v (.slice none 0 0))=some (.v (.bool false)):=by
 have:Tryz.prog.underlying 37=some (.slice 100):=by kernel_rfl
 cases cs with
 | nil=>exact absurd rfl h
 | cons c cs=>simp[gQ,sE,this]
theorem aR5:gQ Tryz.prog .eql 37 (.v (.slice none 0 0)) (.v (.slice none 0 0))=some (.v (.bool true)):=by
 have:Tryz.prog.underlying 37=some (.slice 100):=by kernel_rfl
 simp[gQ,sE,this]
theorem Y7:dK Tryz.prog 44=some (87,67,104):=by kernel_rfl
theorem aLU:jB Tryz.prog 44=none:=by kernel_rfl
theorem aR6 (cs:List AV) (o:Nat):fD Tryz.prog 44 cs o=cs[o]?:=by
 have:fL Tryz.prog 44=some (false,1):=by kernel_rfl
 simp only[fD,this]
theorem aR7:sQ Tryz.prog 44=some 1:=by kernel_rfl
theorem aR8:dS Tryz.prog 44=some [.slice none 0 0]:=by kernel_rfl
theorem oB:dK Tryz.prog 45=some (74,238,336):=by kernel_rfl
theorem aHb:jB Tryz.prog 45=none:=by kernel_rfl
theorem aR9 (cs:List AV) (o:Nat):fD Tryz.prog 45 cs o=cs[o]?:=by
 have:fL Tryz.prog 45=some (false,1):=by kernel_rfl
 simp only[fD,this]
theorem aSa:sQ Tryz.prog 45=some 1:=by kernel_rfl
theorem aSb:dS Tryz.prog 45=some [.slice none 0 0]:=by kernel_rfl
theorem aSc (n:Nat) (cs:List AV) (h:cs≠[]):gQ Tryz.prog .eql 45 (.sl n cs) (.v (.slice none 0 0))=some (.v (.bool false)):=by
 have:Tryz.prog.underlying 45=some (.slice 74):=by kernel_rfl
 cases cs with
 | nil=>exact absurd rfl h
 | cons c cs=>simp[gQ,sE,this]
theorem aSd:gQ Tryz.prog .eql 45 (.v (.slice none 0 0)) (.v (.slice none 0 0))=some (.v (.bool true)):=by
 have:Tryz.prog.underlying 45=some (.slice 74):=by kernel_rfl
 simp[gQ,sE,this]
theorem PV:dK Tryz.prog 48=some (76,240,352):=by kernel_rfl
theorem aHc:jB Tryz.prog 48=none:=by kernel_rfl
theorem aSe (cs:List AV) (o:Nat):fD Tryz.prog 48 cs o=cs[o]?:=by
 have:fL Tryz.prog 48=some (false,1):=by kernel_rfl
 simp only[fD,this]
theorem aSf:sQ Tryz.prog 48=some 1:=by kernel_rfl
theorem aSg:dS Tryz.prog 48=some [.slice none 0 0]:=by kernel_rfl
theorem aSh (n:Nat) (cs:List AV) (h:cs≠[]):gQ Tryz.prog .eql 48 (.sl n cs) (.v (.slice none 0 0))=some (.v (.bool false)):=by
 have:Tryz.prog.underlying 48=some (.slice 76):=by kernel_rfl
 cases cs with
 | nil=>exact absurd rfl h
 | cons c cs=>simp[gQ,sE,this]
theorem JD:dK Tryz.prog 51=some (118,34,64):=by kernel_rfl
theorem aLV:jB Tryz.prog 51=none:=by kernel_rfl
theorem aSi (cs:List AV) (o:Nat):fD Tryz.prog 51 cs o=cs[o]?:=by
 have:fL Tryz.prog 51=some (false,1):=by kernel_rfl
 simp only[fD,this]
theorem aSj:sQ Tryz.prog 51=some 1:=by kernel_rfl
theorem aSk:dS Tryz.prog 51=some [.slice none 0 0]:=by kernel_rfl
theorem Bj:dK Tryz.prog 54=some (63,35,56):=by kernel_rfl
theorem aHd:jB Tryz.prog 54=none:=by kernel_rfl
theorem aSl (cs:List AV) (o:Nat):fD Tryz.prog 54 cs o=cs[o]?:=by
 have:fL Tryz.prog 54=some (false,1):=by kernel_rfl
 simp only[fD,this]
theorem aSm:sQ Tryz.prog 54=some 1:=by kernel_rfl
theorem aSn:dS Tryz.prog 54=some [.slice none 0 0]:=by kernel_rfl
theorem aSo (n:Nat) (cs:List AV) (h:cs≠[]):gQ Tryz.prog .eql 54 (.sl n cs) (.v (.slice none 0 0))=some (.v (.bool false)):=by
 have:Tryz.prog.underlying 54=some (.slice 63):=by kernel_rfl
 cases cs with
 | nil=>exact absurd rfl h
 | cons c cs=>simp[gQ,sE,this]
theorem aSp:gQ Tryz.prog .eql 54 (.v (.slice none 0 0)) (.v (.slice none 0 0))=some (.v (.bool true)):=by
 have:Tryz.prog.underlying 54=some (.slice 63):=by kernel_rfl
 simp[gQ,sE,this]
theorem Y8:dK Tryz.prog 70=some (27,32,32):=by kernel_rfl
theorem aLW:jB Tryz.prog 70=none:=by kernel_rfl
theorem aSq:sQ Tryz.prog 70=some 1:=by kernel_rfl
theorem aSr:dS Tryz.prog 70=some [.slice none 0 0]:=by kernel_rfl
theorem I0:dK Tryz.prog 109=some (41,33,40):=by kernel_rfl
theorem aEo:jB Tryz.prog 109=none:=by kernel_rfl
theorem aLX:sQ Tryz.prog 109=some 1:=by kernel_rfl
theorem aLY:dS Tryz.prog 109=some [.slice none 0 0]:=by kernel_rfl
theorem YI:dK Tryz.prog 124=some (190,446,720):=by kernel_rfl
theorem aLZ:jB Tryz.prog 124=none:=by kernel_rfl
theorem aL0:sQ Tryz.prog 124=some 1:=by kernel_rfl
theorem aL1:dS Tryz.prog 124=some [.slice none 0 0]:=by kernel_rfl
theorem aEp:dK Tryz.prog 181=some (56,96,96):=by kernel_rfl
theorem aL2:jB Tryz.prog 181=none:=by kernel_rfl
theorem aL3:sQ Tryz.prog 181=some 1:=by kernel_rfl
theorem aL4:dS Tryz.prog 181=some [.slice none 0 0]:=by kernel_rfl
theorem YJ:dK Tryz.prog 236=some (5,1,1):=by kernel_rfl
theorem aL5:jB Tryz.prog 236=none:=by kernel_rfl
theorem aL6:sQ Tryz.prog 236=some 1:=by kernel_rfl
theorem aL7:dS Tryz.prog 236=some [.slice none 0 0]:=by kernel_rfl
theorem PW:dK Tryz.prog 262=some (4,1,1):=by kernel_rfl
theorem aEq:jB Tryz.prog 262=none:=by kernel_rfl
theorem aL8:sQ Tryz.prog 262=some 1:=by kernel_rfl
theorem aL9:dS Tryz.prog 262=some [.slice none 0 0]:=by kernel_rfl
theorem aSs {call:Nat→List AV→Option AV} {ops:Array Oper} {st:St} {T:Nat} {pos:String} {eG:Array Edge} (d:Nat):cB Tryz.prog call ops ⟨some d,.buildSlice 22 0 #[],T,pos,eG,none⟩ st=some ((st.new d (.row 3 1 0 [])).put (some d) (.own d (st.aO d))):=Ra Kg ze3 d
theorem aSt (st:St) (x:AV):cX Tryz.prog st 34 (.v (.slice none 0 0)) x=wH 23 1 8 (aQ st x):=sC VR x
theorem aSu (st:St) (s g:Nat) (x:AV):cX Tryz.prog st 34 (.own s g) x=wS 23 1 8 (st.heap s g) s g (aQ st x):=sD VR s g x
theorem aSv (st:St) (s g:Nat) (kk:IntKind) (i:Int):bB Tryz.prog st 34 (.own s g) (.v (.int kk i))=OJ 23 1 (st.heap s g) s g i:=On aG9 VR s g kk i
theorem aSw {call:Nat→List AV→Option AV} {ops:Array Oper} {st:St} {T:Nat} {pos:String} {eG:Array Edge} (d:Nat):cB Tryz.prog call ops ⟨some d,.buildSlice 34 0 #[],T,pos,eG,none⟩ st=some ((st.new d (.row 23 1 0 [])).put (some d) (.own d (st.aO d))):=Ra VR aFY d
theorem aSx {call:Nat→List AV→Option AV} {ops:Array Oper} {st:St} {T:Nat} {pos:String} {eG:Array Edge} (d:Nat) (x:Operand):cB Tryz.prog call ops ⟨some d,.buildSlice 34 1 #[(0,x)],T,pos,eG,none⟩ st=elV (st.ev x) (fun y=>some ((st.new d (.row 23 1 1 [.v y])).put (some d) (.own d (st.aO d)))) (cB Tryz.prog call ops ⟨some d,.buildSlice 34 1 #[(0,x)],T,pos,eG,none⟩ st):=HT VR aFY d x
theorem aSy (st:St) (x:AV):cX Tryz.prog st 37 (.v (.slice none 0 0)) x=wH 100 34 48 (aQ st x):=sC C2 x
theorem aSz (st:St) (s g:Nat) (x:AV):cX Tryz.prog st 37 (.own s g) x=wS 100 34 48 (st.heap s g) s g (aQ st x):=sD C2 s g x
theorem aSA (st:St) (s g:Nat) (kk:IntKind) (i:Int):bB Tryz.prog st 37 (.own s g) (.v (.int kk i))=OJ 100 34 (st.heap s g) s g i:=On aHa C2 s g kk i
theorem aSB {call:Nat→List AV→Option AV} {ops:Array Oper} {st:St} {T:Nat} {pos:String} {eG:Array Edge} (d:Nat):cB Tryz.prog call ops ⟨some d,.buildSlice 37 0 #[],T,pos,eG,none⟩ st=some ((st.new d (.row 100 34 0 [])).put (some d) (.own d (st.aO d))):=Ra C2 aEl d
theorem aSC (st:St) (x:AV):cX Tryz.prog st 44 (.v (.slice none 0 0)) x=wH 87 67 104 (aQ st x):=sC Y7 x
theorem aSD (st:St) (s g:Nat) (x:AV):cX Tryz.prog st 44 (.own s g) x=wS 87 67 104 (st.heap s g) s g (aQ st x):=sD Y7 s g x
theorem aSE {call:Nat→List AV→Option AV} {ops:Array Oper} {st:St} {T:Nat} {pos:String} {eG:Array Edge} (d:Nat) (x:Operand):cB Tryz.prog call ops ⟨some d,.buildSlice 44 1 #[(0,x)],T,pos,eG,none⟩ st=F6 67 (st.ev x) (fun cs=>some ((st.new d (.row 87 67 1 cs)).put (some d) (.own d (st.aO d)))) (cB Tryz.prog call ops ⟨some d,.buildSlice 44 1 #[(0,x)],T,pos,eG,none⟩ st):=El Y7 aLC (by rfl) (by decide) d x
theorem aSF (st:St) (x:AV):cX Tryz.prog st 45 (.v (.slice none 0 0)) x=wH 74 238 336 (aQ st x):=sC oB x
theorem aSG (st:St) (s g:Nat) (x:AV):cX Tryz.prog st 45 (.own s g) x=wS 74 238 336 (st.heap s g) s g (aQ st x):=sD oB s g x
theorem aSH (st:St) (s g:Nat) (kk:IntKind) (i:Int):bB Tryz.prog st 45 (.own s g) (.v (.int kk i))=OJ 74 238 (st.heap s g) s g i:=On aHb oB s g kk i
theorem aSI {call:Nat→List AV→Option AV} {ops:Array Oper} {st:St} {T:Nat} {pos:String} {eG:Array Edge} (d:Nat):cB Tryz.prog call ops ⟨some d,.buildSlice 45 0 #[],T,pos,eG,none⟩ st=some ((st.new d (.row 74 238 0 [])).put (some d) (.own d (st.aO d))):=Ra oB aGf d
theorem aSJ {call:Nat→List AV→Option AV} {ops:Array Oper} {st:St} {T:Nat} {pos:String} {eG:Array Edge} (d:Nat) (x:Operand):cB Tryz.prog call ops ⟨some d,.buildSlice 45 1 #[(0,x)],T,pos,eG,none⟩ st=F6 238 (st.ev x) (fun cs=>some ((st.new d (.row 74 238 1 cs)).put (some d) (.own d (st.aO d)))) (cB Tryz.prog call ops ⟨some d,.buildSlice 45 1 #[(0,x)],T,pos,eG,none⟩ st):=El oB aGf (by rfl) (by decide) d x
theorem aSK {call:Nat→List AV→Option AV} {ops:Array Oper} {st:St} {T:Nat} {pos:String} {eG:Array Edge} (d:Nat):cB Tryz.prog call ops ⟨some d,.buildSlice 48 0 #[],T,pos,eG,none⟩ st=some ((st.new d (.row 76 240 0 [])).put (some d) (.own d (st.aO d))):=Ra PV aGj d
theorem aSL (st:St) (x:AV):cX Tryz.prog st 51 (.v (.slice none 0 0)) x=wH 118 34 64 (aQ st x):=sC JD x
theorem aSM (st:St) (s g:Nat) (x:AV):cX Tryz.prog st 51 (.own s g) x=wS 118 34 64 (st.heap s g) s g (aQ st x):=sD JD s g x
theorem aSN {call:Nat→List AV→Option AV} {ops:Array Oper} {st:St} {T:Nat} {pos:String} {eG:Array Edge} (d:Nat) (x:Operand):cB Tryz.prog call ops ⟨some d,.buildSlice 51 1 #[(0,x)],T,pos,eG,none⟩ st=F6 34 (st.ev x) (fun cs=>some ((st.new d (.row 118 34 1 cs)).put (some d) (.own d (st.aO d)))) (cB Tryz.prog call ops ⟨some d,.buildSlice 51 1 #[(0,x)],T,pos,eG,none⟩ st):=El JD aEm (by rfl) (by decide) d x
theorem aSO (st:St) (x:AV):cX Tryz.prog st 54 (.v (.slice none 0 0)) x=wH 63 35 56 (aQ st x):=sC Bj x
theorem aSP (st:St) (s g:Nat) (x:AV):cX Tryz.prog st 54 (.own s g) x=wS 63 35 56 (st.heap s g) s g (aQ st x):=sD Bj s g x
theorem aSQ (st:St) (s g:Nat) (kk:IntKind) (i:Int):bB Tryz.prog st 54 (.own s g) (.v (.int kk i))=OJ 63 35 (st.heap s g) s g i:=On aHd Bj s g kk i
theorem aSR {call:Nat→List AV→Option AV} {ops:Array Oper} {st:St} {T:Nat} {pos:String} {eG:Array Edge} (d:Nat):cB Tryz.prog call ops ⟨some d,.buildSlice 54 0 #[],T,pos,eG,none⟩ st=some ((st.new d (.row 63 35 0 [])).put (some d) (.own d (st.aO d))):=Ra Bj aBA d
theorem aSS {call:Nat→List AV→Option AV} {ops:Array Oper} {st:St} {T:Nat} {pos:String} {eG:Array Edge} (d:Nat) (x:Operand):cB Tryz.prog call ops ⟨some d,.buildSlice 54 1 #[(0,x)],T,pos,eG,none⟩ st=F6 35 (st.ev x) (fun cs=>some ((st.new d (.row 63 35 1 cs)).put (some d) (.own d (st.aO d)))) (cB Tryz.prog call ops ⟨some d,.buildSlice 54 1 #[(0,x)],T,pos,eG,none⟩ st):=El Bj aBA (by rfl) (by decide) d x
theorem aST (st:St) (x:AV):cX Tryz.prog st 70 (.v (.slice none 0 0)) x=wH 27 32 32 (aQ st x):=sC Y8 x
theorem aSU (st:St) (s g:Nat) (x:AV):cX Tryz.prog st 70 (.own s g) x=wS 27 32 32 (st.heap s g) s g (aQ st x):=sD Y8 s g x
theorem aSV {call:Nat→List AV→Option AV} {ops:Array Oper} {st:St} {T:Nat} {pos:String} {eG:Array Edge} (d:Nat) (x:Operand):cB Tryz.prog call ops ⟨some d,.buildSlice 70 1 #[(0,x)],T,pos,eG,none⟩ st=F6 32 (st.ev x) (fun cs=>some ((st.new d (.row 27 32 1 cs)).put (some d) (.own d (st.aO d)))) (cB Tryz.prog call ops ⟨some d,.buildSlice 70 1 #[(0,x)],T,pos,eG,none⟩ st):=El Y8 aLx (by rfl) (by decide) d x
theorem aMa (st:St) (s g:Nat) (kk:IntKind) (i:Int):bB Tryz.prog st 109 (.own s g) (.v (.int kk i))=OJ 41 33 (st.heap s g) s g i:=On aEo I0 s g kk i
theorem aMb (st:St) (x:AV):cX Tryz.prog st 124 (.v (.slice none 0 0)) x=wH 190 446 720 (aQ st x):=sC YI x
theorem aMc (st:St) (s g:Nat) (x:AV):cX Tryz.prog st 124 (.own s g) x=wS 190 446 720 (st.heap s g) s g (aQ st x):=sD YI s g x
theorem aMd {call:Nat→List AV→Option AV} {ops:Array Oper} {st:St} {T:Nat} {pos:String} {eG:Array Edge} (d:Nat) (x:Operand):cB Tryz.prog call ops ⟨some d,.buildSlice 124 1 #[(0,x)],T,pos,eG,none⟩ st=F6 446 (st.ev x) (fun cs=>some ((st.new d (.row 190 446 1 cs)).put (some d) (.own d (st.aO d)))) (cB Tryz.prog call ops ⟨some d,.buildSlice 124 1 #[(0,x)],T,pos,eG,none⟩ st):=El YI aEn (by rfl) (by decide) d x
theorem aMe {call:Nat→List AV→Option AV} {ops:Array Oper} {st:St} {T:Nat} {pos:String} {eG:Array Edge} (d:Nat) (x:Operand):cB Tryz.prog call ops ⟨some d,.buildSlice 181 1 #[(0,x)],T,pos,eG,none⟩ st=F6 96 (st.ev x) (fun cs=>some ((st.new d (.row 56 96 1 cs)).put (some d) (.own d (st.aO d)))) (cB Tryz.prog call ops ⟨some d,.buildSlice 181 1 #[(0,x)],T,pos,eG,none⟩ st):=El aEp aLP (by rfl) (by decide) d x
theorem aMf (st:St) (x:AV):cX Tryz.prog st 236 (.v (.slice none 0 0)) x=wH 5 1 1 (aQ st x):=sC YJ x
theorem aMg (st:St) (s g:Nat) (x:AV):cX Tryz.prog st 236 (.own s g) x=wS 5 1 1 (st.heap s g) s g (aQ st x):=sD YJ s g x
theorem aMh {call:Nat→List AV→Option AV} {ops:Array Oper} {st:St} {T:Nat} {pos:String} {eG:Array Edge} (d:Nat) (x:Operand):cB Tryz.prog call ops ⟨some d,.buildSlice 236 1 #[(0,x)],T,pos,eG,none⟩ st=elV (st.ev x) (fun y=>some ((st.new d (.row 5 1 1 [.v y])).put (some d) (.own d (st.aO d)))) (cB Tryz.prog call ops ⟨some d,.buildSlice 236 1 #[(0,x)],T,pos,eG,none⟩ st):=HT YJ ze5 d x
theorem aMi (st:St) (x:AV):cX Tryz.prog st 262 (.v (.slice none 0 0)) x=wH 4 1 1 (aQ st x):=sC PW x
theorem aMj (st:St) (s g:Nat) (x:AV):cX Tryz.prog st 262 (.own s g) x=wS 4 1 1 (st.heap s g) s g (aQ st x):=sD PW s g x
theorem aMk {call:Nat→List AV→Option AV} {ops:Array Oper} {st:St} {T:Nat} {pos:String} {eG:Array Edge} (d:Nat) (x:Operand):cB Tryz.prog call ops ⟨some d,.buildSlice 262 1 #[(0,x)],T,pos,eG,none⟩ st=elV (st.ev x) (fun y=>some ((st.new d (.row 4 1 1 [.v y])).put (some d) (.own d (st.aO d)))) (cB Tryz.prog call ops ⟨some d,.buildSlice 262 1 #[(0,x)],T,pos,eG,none⟩ st):=HT PW ze4 d x
theorem ok5:bG Tryz.f5=true:=by kernel_rfl
theorem aPG:bG Tryz.f24=true:=by kernel_rfl
theorem aPb:tY Tryz.f25=true:=by kernel_rfl
theorem aLi:tY Tryz.f26=true:=by kernel_rfl
theorem aPv:tY Tryz.f27=true:=by kernel_rfl
theorem aQa:bG Tryz.f29=true:=by kernel_rfl
theorem aM1:bG Tryz.f30=true:=by kernel_rfl
theorem aQd:bG Tryz.f31=true:=by kernel_rfl
theorem aO6:bG Tryz.f32=true:=by kernel_rfl
theorem aQf:bG Tryz.f33=true:=by kernel_rfl
theorem aNf:bG Tryz.f34=true:=by kernel_rfl
theorem aO5:bG Tryz.f36=true:=by kernel_rfl
theorem aPa:bG Tryz.f37=true:=by kernel_rfl
theorem aNU:bG Tryz.f39=true:=by kernel_rfl
theorem aNR:bG Tryz.f40=true:=by kernel_rfl
theorem aN8:bG Tryz.f44=true:=by kernel_rfl
theorem aOS:bG Tryz.f45=true:=by kernel_rfl
theorem aSW:bG Tryz.f46=true:=by kernel_rfl
theorem aSX:bG Tryz.f47=true:=by kernel_rfl
theorem aMl:bG Tryz.f49=true:=by kernel_rfl
theorem aPc:tY Tryz.f50=true:=by kernel_rfl
theorem aNX:bG Tryz.f52=true:=by kernel_rfl
theorem aNT:bG Tryz.f54=true:=by kernel_rfl
theorem aNZ:tY Tryz.f59=true:=by kernel_rfl
theorem aN0:tY Tryz.f61=true:=by kernel_rfl
theorem aNr:bG Tryz.f64=true:=by kernel_rfl
theorem aNM:bG Tryz.f65=true:=by kernel_rfl
theorem aNY:bG Tryz.f67=true:=by kernel_rfl
theorem aNV:bG Tryz.f69=true:=by kernel_rfl
theorem aPq:bG Tryz.f72=true:=by kernel_rfl
theorem aPp:tY Tryz.f74=true:=by kernel_rfl
theorem aPF:tY Tryz.f75=true:=by kernel_rfl
theorem aMm:bG Tryz.f76=true:=by kernel_rfl
theorem aP7:bG Tryz.f77=true:=by kernel_rfl
theorem aP6:bG Tryz.f78=true:=by kernel_rfl
theorem aP5:bG Tryz.f79=true:=by kernel_rfl
theorem aP4:bG Tryz.f80=true:=by kernel_rfl
theorem aP3:bG Tryz.f81=true:=by kernel_rfl
theorem aP8:bG Tryz.f83=true:=by kernel_rfl
theorem aQb:bG Tryz.f84=true:=by kernel_rfl
theorem aO2:bG Tryz.f85=true:=by kernel_rfl
theorem aO3:bG Tryz.f86=true:=by kernel_rfl
theorem aSY:bG Tryz.f87=true:=by kernel_rfl
theorem aNk:bG Tryz.f89=true:=by kernel_rfl
theorem aO4:bG Tryz.f91=true:=by kernel_rfl
theorem aOV:bG Tryz.f92=true:=by kernel_rfl
theorem aNF:bG Tryz.f97=true:=by kernel_rfl
theorem aNG:bG Tryz.f98=true:=by kernel_rfl
theorem aNI:bG Tryz.f99=true:=by kernel_rfl
theorem aIk:bG Tryz.f100=true:=by kernel_rfl
theorem aKL:bG Tryz.f101=true:=by kernel_rfl
theorem aJY:bG Tryz.f102=true:=by kernel_rfl
theorem aJ7:bG Tryz.f103=true:=by kernel_rfl
theorem aJ6:bG Tryz.f105=true:=by kernel_rfl
theorem aJ8:bG Tryz.f108=true:=by kernel_rfl
theorem aK6:bG Tryz.f109=true:=by kernel_rfl
theorem aJi:bG Tryz.f110=true:=by kernel_rfl
theorem aKw:bG Tryz.f111=true:=by kernel_rfl
theorem aI0:bG Tryz.f114=true:=by kernel_rfl
theorem aJf:bG Tryz.f117=true:=by kernel_rfl
theorem aIP:bG Tryz.f122=true:=by kernel_rfl
theorem aIR:bG Tryz.f128=true:=by kernel_rfl
theorem aDF:bG Tryz.f130=true:=by kernel_rfl
theorem aI4:bG Tryz.f131=true:=by kernel_rfl
theorem aIN:bG Tryz.f137=true:=by kernel_rfl
theorem aKA:bG Tryz.f143=true:=by kernel_rfl
theorem aKV:bG Tryz.f144=true:=by kernel_rfl
theorem aIa:bG Tryz.f145=true:=by kernel_rfl
theorem aKJ:bG Tryz.f146=true:=by kernel_rfl
theorem aKR:bG Tryz.f147=true:=by kernel_rfl
theorem aEb:bG Tryz.f148=true:=by kernel_rfl
theorem aIc:bG Tryz.f149=true:=by kernel_rfl
theorem aIs:bG Tryz.f150=true:=by kernel_rfl
theorem aIq:bG Tryz.f151=true:=by kernel_rfl
theorem aIh:bG Tryz.f155=true:=by kernel_rfl
theorem aIi:bG Tryz.f156=true:=by kernel_rfl
theorem aIb:bG Tryz.f157=true:=by kernel_rfl
theorem aJb:bG Tryz.f158=true:=by kernel_rfl
theorem aJ9:bG Tryz.f159=true:=by kernel_rfl
theorem aD7:bG Tryz.f160=true:=by kernel_rfl
theorem aK5:bG Tryz.f161=true:=by kernel_rfl
theorem aK2:bG Tryz.f162=true:=by kernel_rfl
theorem aKZ:bG Tryz.f163=true:=by kernel_rfl
theorem aEa:bG Tryz.f164=true:=by kernel_rfl
theorem aIA:bG Tryz.f165=true:=by kernel_rfl
theorem aK4:bG Tryz.f166=true:=by kernel_rfl
theorem aIZ:bG Tryz.f169=true:=by kernel_rfl
theorem aIX:bG Tryz.f170=true:=by kernel_rfl
theorem aJe:bG Tryz.f172=true:=by kernel_rfl
theorem aDD:bG Tryz.f175=true:=by kernel_rfl
theorem aIU:bG Tryz.f176=true:=by kernel_rfl
theorem aJV:tY Tryz.f181=true:=by kernel_rfl
theorem aKy:bG Tryz.f182=true:=by kernel_rfl
theorem aKz:bG Tryz.f183=true:=by kernel_rfl
theorem aKu:tY Tryz.f184=true:=by kernel_rfl
theorem aKP:bG Tryz.f185=true:=by kernel_rfl
theorem aMn:bG Tryz.f186=true:=by kernel_rfl
theorem aIe:bG Tryz.f188=true:=by kernel_rfl
theorem aIg:bG Tryz.f189=true:=by kernel_rfl
theorem aD8:bG Tryz.f190=true:=by kernel_rfl
theorem aD9:bG Tryz.f191=true:=by kernel_rfl
theorem aIz:bG Tryz.f192=true:=by kernel_rfl
theorem aK3:bG Tryz.f193=true:=by kernel_rfl
theorem aK0:bG Tryz.f194=true:=by kernel_rfl
theorem aJd:tY Tryz.f195=true:=by kernel_rfl
theorem aIj:bG Tryz.f196=true:=by kernel_rfl
theorem aJT:bG Tryz.f199=true:=by kernel_rfl
theorem aKt:bG Tryz.f200=true:=by kernel_rfl
theorem aKd:bG Tryz.f201=true:=by kernel_rfl
theorem aKF:tY Tryz.f202=true:=by kernel_rfl
theorem aKO:bG Tryz.f203=true:=by kernel_rfl
theorem aJN:bG Tryz.f204=true:=by kernel_rfl
theorem aJM:bG Tryz.f205=true:=by kernel_rfl
theorem aD3:bG Tryz.f206=true:=by kernel_rfl
theorem aJS:bG Tryz.f208=true:=by kernel_rfl
theorem aJq:bG Tryz.f209=true:=by kernel_rfl
theorem aKn:tY Tryz.f210=true:=by kernel_rfl
theorem aKp:tY Tryz.f211=true:=by kernel_rfl
theorem aKq:bG Tryz.f212=true:=by kernel_rfl
theorem aKr:tY Tryz.f213=true:=by kernel_rfl
theorem aKs:tY Tryz.f214=true:=by kernel_rfl
theorem aDQ:bG Tryz.f215=true:=by kernel_rfl
theorem aKc:bG Tryz.f216=true:=by kernel_rfl
theorem aJl:bG Tryz.f217=true:=by kernel_rfl
theorem aJh:bG Tryz.f218=true:=by kernel_rfl
theorem aJL:bG Tryz.f219=true:=by kernel_rfl
theorem aJK:bG Tryz.f220=true:=by kernel_rfl
theorem aJI:bG Tryz.f221=true:=by kernel_rfl
theorem aIK:bG Tryz.f222=true:=by kernel_rfl
theorem aJA:bG Tryz.f223=true:=by kernel_rfl
theorem aJF:bG Tryz.f224=true:=by kernel_rfl
theorem aJP:bG Tryz.f225=true:=by kernel_rfl
theorem aJ2:bG Tryz.f226=true:=by kernel_rfl
theorem aKk:bG Tryz.f227=true:=by kernel_rfl
theorem aJ3:tY Tryz.f228=true:=by kernel_rfl
theorem aKl:bG Tryz.f229=true:=by kernel_rfl
theorem aKm:bG Tryz.f230=true:=by kernel_rfl
theorem aDS:tY Tryz.f231=true:=by kernel_rfl
theorem aKb:bG Tryz.f232=true:=by kernel_rfl
theorem aI1:bG Tryz.f233=true:=by kernel_rfl
theorem aJp:bG Tryz.f234=true:=by kernel_rfl
theorem aJs:tY Tryz.f235=true:=by kernel_rfl
theorem aIF:bG Tryz.f236=true:=by kernel_rfl
theorem aIJ:bG Tryz.f237=true:=by kernel_rfl
theorem aIG:bG Tryz.f238=true:=by kernel_rfl
theorem aJo:bG Tryz.f239=true:=by kernel_rfl
theorem aJr:bG Tryz.f240=true:=by kernel_rfl
theorem aJy:bG Tryz.f241=true:=by kernel_rfl
theorem aJz:bG Tryz.f242=true:=by kernel_rfl
theorem aJv:bG Tryz.f243=true:=by kernel_rfl
theorem aDK:bG Tryz.f244=true:=by kernel_rfl
theorem aIv:bG Tryz.f245=true:=by kernel_rfl
theorem aKi:bG Tryz.f246=true:=by kernel_rfl
theorem aIE:bG Tryz.f247=true:=by kernel_rfl
theorem aJu:bG Tryz.f248=true:=by kernel_rfl
theorem aJD:bG Tryz.f249=true:=by kernel_rfl
theorem aJn:bG Tryz.f250=true:=by kernel_rfl
theorem aIM:bG Tryz.f251=true:=by kernel_rfl
theorem aJB:bG Tryz.f252=true:=by kernel_rfl
end Go.Ab.Tryz
