/-
  Part 8 of the proof: an evaluator of programs, its soundness, and what functions of this program compute.
-/
import Derived.Test.YtmcjkemalibacaaGreatK7
import Derived.Test.YtmcjkemalibacaaGreatProg
import Derived.KernelRfl
set_option linter.all false
set_option maxRecDepth 20000
set_option maxHeartbeats 40000000
namespace Go.Ab.Tryz
open Classical Go.Proofs Go.Ab
theorem mixed:Tryz.prog.follows .mixedOrders=true:=by kernel_rfl
theorem ld3 (cs:List AV) (o:Nat):fD Tryz.prog 3 cs o=cs[o]?:=by
 have:fS Tryz.prog 3=some (false,1):=by kernel_rfl
 simp only[fD,this]
theorem ik3:intKind Tryz.prog 3=some .i64:=by kernel_rfl
theorem lk3:sT Tryz.prog 3=some 1:=by kernel_rfl
theorem ze3:eH Tryz.prog 3=some [.int .i64 0]:=by kernel_rfl
theorem aTf (cs:List AV) (o:Nat):fD Tryz.prog 23 cs o=cs[o]?:=by
 have:fS Tryz.prog 23=some (false,1):=by kernel_rfl
 simp only[fD,this]
theorem aTg:intKind Tryz.prog 23=some .u64:=by kernel_rfl
theorem WE:sT Tryz.prog 23=some 1:=by kernel_rfl
theorem aHJ:eH Tryz.prog 23=some [.int .u64 0]:=by kernel_rfl
theorem aTh:intKind Tryz.prog 61=some .u64:=by kernel_rfl
theorem aTi:sT Tryz.prog 61=some 1:=by kernel_rfl
theorem aTj:eH Tryz.prog 61=some [.int .u64 0]:=by kernel_rfl
theorem ld5 (cs:List AV) (o:Nat):fD Tryz.prog 5 cs o=cs[o]?:=by
 have:fS Tryz.prog 5=some (false,1):=by kernel_rfl
 simp only[fD,this]
theorem ik5:intKind Tryz.prog 5=some .u8:=by kernel_rfl
theorem lk5:sT Tryz.prog 5=some 1:=by kernel_rfl
theorem ze5:eH Tryz.prog 5=some [.int .u8 0]:=by kernel_rfl
theorem ik2:intKind Tryz.prog 2=some .i64:=by kernel_rfl
theorem lk2:sT Tryz.prog 2=some 1:=by kernel_rfl
theorem ze2:eH Tryz.prog 2=some [.int .i64 0]:=by kernel_rfl
theorem aTk:intKind Tryz.prog 64=some .i64:=by kernel_rfl
theorem aTl:sT Tryz.prog 64=some 1:=by kernel_rfl
theorem aTm:eH Tryz.prog 64=some [.int .i64 0]:=by kernel_rfl
theorem ld4 (cs:List AV) (o:Nat):fD Tryz.prog 4 cs o=cs[o]?:=by
 have:fS Tryz.prog 4=some (false,1):=by kernel_rfl
 simp only[fD,this]
theorem lk4:sT Tryz.prog 4=some 1:=by kernel_rfl
theorem ze4:eH Tryz.prog 4=some [.bool false]:=by kernel_rfl
theorem aTn (cs:List AV) (o:Nat) (h:32≤cs.length-o):fD Tryz.prog 27 cs o=some (.agg (rd cs o 32)):=by
 have:fS Tryz.prog 27=some (true,32):=by kernel_rfl
 simp[fD,this,h]
theorem aKY:sT Tryz.prog 27=some 32:=by kernel_rfl
theorem aNI:eH Tryz.prog 27=some tO:=by kernel_rfl
theorem aHK (a b:cN):wV Tryz.prog 27 (bD a) (bD b)=some (decide (a=b)):=sP (l:=Jn) (by kernel_rfl) (by kernel_rfl) (by kernel_rfl) (nN a b) (pZ a b)
theorem aTo (a b:cN):gM Tryz.prog .eql 27 (.agg (bD a)) (.agg (bD b))=some (.v (.bool (decide (a=b)))):=by simp only[gM,aHK,Option.map_some]
theorem aTp (a b:cN):gM Tryz.prog .neq 27 (.agg (bD a)) (.agg (bD b))=some (.v (.bool (!(decide (a=b))))):=by simp only[gM,aHK,Option.map_some]
theorem aGn:jK Tryz.prog 27=some (32,1):=by kernel_rfl
theorem aTq (st:St) (parts:List (Nat × Operand)):iW Tryz.prog st 27 parts=if (parts.all fun p=>(st.ev p.2).jE)=true then (gT (fun i=>some (i * 1,1)) (bD dR) (parts.map fun p=>(p.1,st.ev p.2))).map .agg else none:=iG (z:=tO) (by kernel_rfl) jN (Wg (by kernel_rfl))
theorem aTr (cs:List AV) (o:Nat) (h:4≤cs.length-o):fD Tryz.prog 33 cs o=some (.agg (rd cs o 4)):=by
 have:fS Tryz.prog 33=some (true,4):=by kernel_rfl
 simp[fD,this,h]
theorem aTs:sT Tryz.prog 33=some 4:=by kernel_rfl
theorem aTt:eH Tryz.prog 33=some BZ:=by kernel_rfl
theorem aNJ (a b:qM):wV Tryz.prog 33 (gJ a) (gJ b)=some (decide (a=b)):=sP (l:=C1) (by kernel_rfl) (by kernel_rfl) (by kernel_rfl) (Oi a b) (Uj a b)
theorem aTu (a b:qM):gM Tryz.prog .neq 33 (.agg (gJ a)) (.agg (gJ b))=some (.v (.bool (!(decide (a=b))))):=by simp only[gM,aNJ,Option.map_some]
theorem aKI:jK Tryz.prog 33=some (4,1):=by kernel_rfl
theorem aTv (st:St) (parts:List (Nat × Operand)):iW Tryz.prog st 33 parts=if (parts.all fun p=>(st.ev p.2).jE)=true then (gT (fun i=>some (i * 1,1)) (gJ IJ) (parts.map fun p=>(p.1,st.ev p.2))).map .agg else none:=iG (z:=BZ) (by kernel_rfl) jO (Wg (by kernel_rfl))
theorem aTw (cs:List AV) (o:Nat) (h:33≤cs.length-o):fD Tryz.prog 41 cs o=some (.agg (rd cs o 33)):=by
 have:fS Tryz.prog 41=some (true,33):=by kernel_rfl
 simp[fD,this,h]
theorem aTx:sT Tryz.prog 41=some 33:=by kernel_rfl
theorem aHL:aY Tryz.prog 41 0=some 0:=by kernel_rfl
theorem aHM:aY Tryz.prog 41 1=some 1:=by kernel_rfl
theorem aGs:eH Tryz.prog 41=some Dx:=by kernel_rfl
theorem aHN (a b:dQ):wV Tryz.prog 41 (bB a) (bB b)=some (decide (a=b)):=sP (l:=Wi) (by kernel_rfl) (by kernel_rfl) (by kernel_rfl) (tF a b) (mY a b)
theorem aTy (a b:dQ):gM Tryz.prog .eql 41 (.agg (bB a)) (.agg (bB b))=some (.v (.bool (decide (a=b)))):=by simp only[gM,aHN,Option.map_some]
theorem aTz (a b:dQ):gM Tryz.prog .neq 41 (.agg (bB a)) (.agg (bB b))=some (.v (.bool (!(decide (a=b))))):=by simp only[gM,aHN,Option.map_some]
theorem aTA (st:St) (parts:List (Nat × Operand)):iW Tryz.prog st 41 parts=if (parts.all fun p=>(st.ev p.2).jE)=true then (gT (fun i=>([(0,1),(1,32)]:List (Nat × Nat))[i]?) (bB gP) (parts.map fun p=>(p.1,st.ev p.2))).map .agg else none:=iG (z:=Dx) (by kernel_rfl) Bz (fF (by kernel_rfl))
theorem aTB (cs:List AV) (o:Nat) (h:66≤cs.length-o):fD Tryz.prog 72 cs o=some (.agg (rd cs o 66)):=by
 have:fS Tryz.prog 72=some (true,66):=by kernel_rfl
 simp[fD,this,h]
theorem aTC:sT Tryz.prog 72=some 66:=by kernel_rfl
theorem aHO:aY Tryz.prog 72 0=some 0:=by kernel_rfl
theorem aHP:aY Tryz.prog 72 1=some 33:=by kernel_rfl
theorem aTD:eH Tryz.prog 72=some Rt:=by kernel_rfl
theorem aTE (st:St) (parts:List (Nat × Operand)):iW Tryz.prog st 72 parts=if (parts.all fun p=>(st.ev p.2).jE)=true then (gT (fun i=>([(0,33),(33,33)]:List (Nat × Nat))[i]?) (fM Qd) (parts.map fun p=>(p.1,st.ev p.2))).map .agg else none:=iG (z:=Rt) (by kernel_rfl) Uk (fF (by kernel_rfl))
theorem aTF (cs:List AV) (o:Nat) (h:238≤cs.length-o):fD Tryz.prog 74 cs o=some (.agg (rd cs o 238)):=by
 have:fS Tryz.prog 74=some (true,238):=by kernel_rfl
 simp[fD,this,h]
theorem PJ:sT Tryz.prog 74=some 238:=by kernel_rfl
theorem aHQ:aY Tryz.prog 74 0=some 0:=by kernel_rfl
theorem aHR:aY Tryz.prog 74 1=some 66:=by kernel_rfl
theorem aHS:aY Tryz.prog 74 2=some 67:=by kernel_rfl
theorem aHT:aY Tryz.prog 74 3=some 99:=by kernel_rfl
theorem aHU:aY Tryz.prog 74 4=some 131:=by kernel_rfl
theorem aHV:aY Tryz.prog 74 5=some 163:=by kernel_rfl
theorem aHW:aY Tryz.prog 74 6=some 167:=by kernel_rfl
theorem aHX:aY Tryz.prog 74 7=some 171:=by kernel_rfl
theorem aHY:aY Tryz.prog 74 8=some 204:=by kernel_rfl
theorem aHZ:aY Tryz.prog 74 9=some 237:=by kernel_rfl
theorem aAl:eH Tryz.prog 74=some Jb:=by kernel_rfl
theorem aH0 (a b:Block):wV Tryz.prog 74 (aV a) (aV b)=some (decide (a=b)):=sP (l:=YR) (by kernel_rfl) (by kernel_rfl) (by kernel_rfl) (Wj a b) (CC a b)
theorem aTG (a b:Block):gM Tryz.prog .eql 74 (.agg (aV a)) (.agg (aV b))=some (.v (.bool (decide (a=b)))):=by simp only[gM,aH0,Option.map_some]
theorem aTH (a b:Block):gM Tryz.prog .neq 74 (.agg (aV a)) (.agg (aV b))=some (.v (.bool (!(decide (a=b))))):=by simp only[gM,aH0,Option.map_some]
theorem aTI (st:St) (parts:List (Nat × Operand)):iW Tryz.prog st 74 parts=if (parts.all fun p=>(st.ev p.2).jE)=true then (gT (fun i=>([(0,66),(66,1),(67,32),(99,32),(131,32),(163,4),(167,4),(171,33),(204,33),(237,1)]:List (Nat × Nat))[i]?) (aV dX) (parts.map fun p=>(p.1,st.ev p.2))).map .agg else none:=iG (z:=Jb) (by kernel_rfl) Rw (fF (by kernel_rfl))
theorem aTJ (cs:List AV) (o:Nat) (h:240≤cs.length-o):fD Tryz.prog 76 cs o=some (.agg (rd cs o 240)):=by
 have:fS Tryz.prog 76=some (true,240):=by kernel_rfl
 simp[fD,this,h]
theorem aTK:sT Tryz.prog 76=some 240:=by kernel_rfl
theorem aH1:aY Tryz.prog 76 0=some 0:=by kernel_rfl
theorem aH2:aY Tryz.prog 76 1=some 238:=by kernel_rfl
theorem aH3:aY Tryz.prog 76 2=some 239:=by kernel_rfl
theorem aH4:eH Tryz.prog 76=some CD:=by kernel_rfl
theorem aNK (a b:Node):wV Tryz.prog 76 (fJ a) (fJ b)=some (decide (a=b)):=sP (l:=aFW) (by kernel_rfl) (by kernel_rfl) (by kernel_rfl) (Ze a b) (M1 a b)
theorem aTL (a b:Node):gM Tryz.prog .neq 76 (.agg (fJ a)) (.agg (fJ b))=some (.v (.bool (!(decide (a=b))))):=by simp only[gM,aNK,Option.map_some]
theorem aTM (st:St) (parts:List (Nat × Operand)):iW Tryz.prog st 76 parts=if (parts.all fun p=>(st.ev p.2).jE)=true then (gT (fun i=>([(0,238),(238,1),(239,1)]:List (Nat × Nat))[i]?) (fJ C3) (parts.map fun p=>(p.1,st.ev p.2))).map .agg else none:=iG (z:=CD) (by kernel_rfl) LN (fF (by kernel_rfl))
theorem aTN (cs:List AV) (o:Nat) (h:1≤cs.length-o):fD Tryz.prog 50 cs o=some (.agg (rd cs o 1)):=by
 have:fS Tryz.prog 50=some (true,1):=by kernel_rfl
 simp[fD,this,h]
theorem aTO:sT Tryz.prog 50=some 1:=by kernel_rfl
theorem aH5:aY Tryz.prog 50 0=some 0:=by kernel_rfl
theorem aTP:eH Tryz.prog 50=some [.slice none 0 0]:=by kernel_rfl
theorem aTQ (st:St) (parts:List (Nat × Operand)):iW Tryz.prog st 50 parts=if (parts.all fun p=>(st.ev p.2).jE)=true then (gT (fun i=>([(0,1)]:List (Nat × Nat))[i]?) [.v (.slice none 0 0)] (parts.map fun p=>(p.1,st.ev p.2))).map .agg else none:=iG (z:=[.slice none 0 0]) (by kernel_rfl) rfl (fF (by kernel_rfl))
theorem aTR:sT Tryz.prog 25=some 1:=by kernel_rfl
theorem aH6:aY Tryz.prog 25 0=some 0:=by kernel_rfl
theorem aTS:eH Tryz.prog 25=some Lp:=by kernel_rfl
theorem aTT (st:St) (parts:List (Nat × Operand)):iW Tryz.prog st 25 parts=if (parts.all fun p=>(st.ev p.2).jE)=true then (gT (fun i=>([(0,1)]:List (Nat × Nat))[i]?) (mT Yh) (parts.map fun p=>(p.1,st.ev p.2))).map .agg else none:=iG (z:=Lp) (by kernel_rfl) Lq (fF (by kernel_rfl))
theorem aTU (cs:List AV) (o:Nat) (h:34≤cs.length-o):fD Tryz.prog 29 cs o=some (.agg (rd cs o 34)):=by
 have:fS Tryz.prog 29=some (true,34):=by kernel_rfl
 simp[fD,this,h]
theorem aTV:sT Tryz.prog 29=some 34:=by kernel_rfl
theorem aH7:aY Tryz.prog 29 0=some 0:=by kernel_rfl
theorem aH8:aY Tryz.prog 29 1=some 1:=by kernel_rfl
theorem aH9:aY Tryz.prog 29 2=some 2:=by kernel_rfl
theorem aTW:eH Tryz.prog 29=some Eh:=by kernel_rfl
theorem aNL (a b:gW):wV Tryz.prog 29 (dJ a) (dJ b)=some (decide (a=b)):=sP (l:=TG) (by kernel_rfl) (by kernel_rfl) (by kernel_rfl) (FH a b) (LV a b)
theorem aTX (a b:gW):gM Tryz.prog .eql 29 (.agg (dJ a)) (.agg (dJ b))=some (.v (.bool (decide (a=b)))):=by simp only[gM,aNL,Option.map_some]
theorem aTY (st:St) (parts:List (Nat × Operand)):iW Tryz.prog st 29 parts=if (parts.all fun p=>(st.ev p.2).jE)=true then (gT (fun i=>([(0,1),(1,1),(2,32)]:List (Nat × Nat))[i]?) (dJ CF) (parts.map fun p=>(p.1,st.ev p.2))).map .agg else none:=iG (z:=Eh) (by kernel_rfl) On (fF (by kernel_rfl))
theorem aTZ (cs:List AV) (o:Nat) (h:6≤cs.length-o):fD Tryz.prog 31 cs o=some (.agg (rd cs o 6)):=by
 have:fS Tryz.prog 31=some (true,6):=by kernel_rfl
 simp[fD,this,h]
theorem aT0:sT Tryz.prog 31=some 6:=by kernel_rfl
theorem aIa:aY Tryz.prog 31 0=some 0:=by kernel_rfl
theorem aIb:aY Tryz.prog 31 1=some 1:=by kernel_rfl
theorem aIc:aY Tryz.prog 31 2=some 2:=by kernel_rfl
theorem aId:aY Tryz.prog 31 3=some 3:=by kernel_rfl
theorem aIe:aY Tryz.prog 31 4=some 4:=by kernel_rfl
theorem aIf:aY Tryz.prog 31 5=some 5:=by kernel_rfl
theorem aT1:eH Tryz.prog 31=some Sd:=by kernel_rfl
theorem aNM (a b:lE):wV Tryz.prog 31 (fR a) (fR b)=some (decide (a=b)):=sP (l:=C8) (by kernel_rfl) (by kernel_rfl) (by kernel_rfl) (LX a b) (TH a b)
theorem aT2 (a b:lE):gM Tryz.prog .neq 31 (.agg (fR a)) (.agg (fR b))=some (.v (.bool (!(decide (a=b))))):=by simp only[gM,aNM,Option.map_some]
theorem aT3 (st:St) (parts:List (Nat × Operand)):iW Tryz.prog st 31 parts=if (parts.all fun p=>(st.ev p.2).jE)=true then (gT (fun i=>([(0,1),(1,1),(2,1),(3,1),(4,1),(5,1)]:List (Nat × Nat))[i]?) (fR LW) (parts.map fun p=>(p.1,st.ev p.2))).map .agg else none:=iG (z:=Sd) (by kernel_rfl) Uv (fF (by kernel_rfl))
theorem aT4 (cs:List AV) (o:Nat) (h:45≤cs.length-o):fD Tryz.prog 36 cs o=some (.agg (rd cs o 45)):=by
 have:fS Tryz.prog 36=some (true,45):=by kernel_rfl
 simp[fD,this,h]
theorem aT5:sT Tryz.prog 36=some 45:=by kernel_rfl
theorem aIg:aY Tryz.prog 36 0=some 0:=by kernel_rfl
theorem aIh:aY Tryz.prog 36 1=some 6:=by kernel_rfl
theorem aIi:aY Tryz.prog 36 2=some 7:=by kernel_rfl
theorem aIj:aY Tryz.prog 36 3=some 8:=by kernel_rfl
theorem aIk:aY Tryz.prog 36 4=some 12:=by kernel_rfl
theorem aIl:aY Tryz.prog 36 5=some 44:=by kernel_rfl
theorem aT6:eH Tryz.prog 36=some Sh:=by kernel_rfl
theorem aT7 (st:St) (parts:List (Nat × Operand)):iW Tryz.prog st 36 parts=if (parts.all fun p=>(st.ev p.2).jE)=true then (gT (fun i=>([(0,6),(6,1),(7,1),(8,4),(12,32),(44,1)]:List (Nat × Nat))[i]?) (bW mS) (parts.map fun p=>(p.1,st.ev p.2))).map .agg else none:=iG (z:=Sh) (by kernel_rfl) Ux (fF (by kernel_rfl))
theorem aNN (cs:List AV) (o:Nat) (h:34≤cs.length-o):fD Tryz.prog 100 cs o=some (.agg (rd cs o 34)):=by
 have:fS Tryz.prog 100=some (true,34):=by kernel_rfl
 simp[fD,this,h]
theorem aFf:sT Tryz.prog 100=some 34:=by kernel_rfl
theorem aD4:aY Tryz.prog 100 0=some 0:=by kernel_rfl
theorem aD5:aY Tryz.prog 100 1=some 1:=by kernel_rfl
theorem aD6:aY Tryz.prog 100 2=some 2:=by kernel_rfl
theorem aFZ:eH Tryz.prog 100=some C9:=by kernel_rfl
theorem aF0 (a b:kO):wV Tryz.prog 100 (jP a) (jP b)=some (decide (a=b)):=sP (l:=aFY) (by kernel_rfl) (by kernel_rfl) (by kernel_rfl) (ZF a b) (N1 a b)
theorem aNO (a b:kO):gM Tryz.prog .neq 100 (.agg (jP a)) (.agg (jP b))=some (.v (.bool (!(decide (a=b))))):=by simp only[gM,aF0,Option.map_some]
theorem aNP (st:St) (parts:List (Nat × Operand)):iW Tryz.prog st 100 parts=if (parts.all fun p=>(st.ev p.2).jE)=true then (gT (fun i=>([(0,1),(1,1),(2,32)]:List (Nat × Nat))[i]?) (jP tN) (parts.map fun p=>(p.1,st.ev p.2))).map .agg else none:=iG (z:=C9) (by kernel_rfl) D0 (fF (by kernel_rfl))
theorem aT8 (cs:List AV) (o:Nat) (h:67≤cs.length-o):fD Tryz.prog 87 cs o=some (.agg (rd cs o 67)):=by
 have:fS Tryz.prog 87=some (true,67):=by kernel_rfl
 simp[fD,this,h]
theorem aT9:sT Tryz.prog 87=some 67:=by kernel_rfl
theorem aIm:aY Tryz.prog 87 0=some 0:=by kernel_rfl
theorem aIn:aY Tryz.prog 87 1=some 1:=by kernel_rfl
theorem aIo:aY Tryz.prog 87 2=some 33:=by kernel_rfl
theorem aIp:aY Tryz.prog 87 3=some 66:=by kernel_rfl
theorem aNQ:eH Tryz.prog 87=some aBv:=by kernel_rfl
theorem aUa (st:St) (parts:List (Nat × Operand)):iW Tryz.prog st 87 parts=if (parts.all fun p=>(st.ev p.2).jE)=true then (gT (fun i=>([(0,1),(1,32),(33,33),(66,1)]:List (Nat × Nat))[i]?) (iC Lu) (parts.map fun p=>(p.1,st.ev p.2))).map .agg else none:=iG (z:=aBv) (by kernel_rfl) ZH (fF (by kernel_rfl))
theorem aNR (cs:List AV) (o:Nat) (h:35≤cs.length-o):fD Tryz.prog 186 cs o=some (.agg (rd cs o 35)):=by
 have:fS Tryz.prog 186=some (true,35):=by kernel_rfl
 simp[fD,this,h]
theorem aNS:sT Tryz.prog 186=some 35:=by kernel_rfl
theorem aD7:aY Tryz.prog 186 0=some 0:=by kernel_rfl
theorem aD8:aY Tryz.prog 186 1=some 1:=by kernel_rfl
theorem aD9:aY Tryz.prog 186 2=some 2:=by kernel_rfl
theorem aEa:aY Tryz.prog 186 3=some 34:=by kernel_rfl
theorem aNT:eH Tryz.prog 186=some Uy:=by kernel_rfl
theorem aNU (st:St) (parts:List (Nat × Operand)):iW Tryz.prog st 186 parts=if (parts.all fun p=>(st.ev p.2).jE)=true then (gT (fun i=>([(0,1),(1,1),(2,32),(34,1)]:List (Nat × Nat))[i]?) (gV MC) (parts.map fun p=>(p.1,st.ev p.2))).map .agg else none:=iG (z:=Uy) (by kernel_rfl) CJ (fF (by kernel_rfl))
theorem aNV (cs:List AV) (o:Nat) (h:70≤cs.length-o):fD Tryz.prog 188 cs o=some (.agg (rd cs o 70)):=by
 have:fS Tryz.prog 188=some (true,70):=by kernel_rfl
 simp[fD,this,h]
theorem aNW:sT Tryz.prog 188=some 70:=by kernel_rfl
theorem aEb:aY Tryz.prog 188 0=some 0:=by kernel_rfl
theorem aEc:aY Tryz.prog 188 1=some 35:=by kernel_rfl
theorem aNX:eH Tryz.prog 188=some Fk:=by kernel_rfl
theorem aNY (st:St) (parts:List (Nat × Operand)):iW Tryz.prog st 188 parts=if (parts.all fun p=>(st.ev p.2).jE)=true then (gT (fun i=>([(0,35),(35,35)]:List (Nat × Nat))[i]?) (cD Uz) (parts.map fun p=>(p.1,st.ev p.2))).map .agg else none:=iG (z:=Fk) (by kernel_rfl) Jt (fF (by kernel_rfl))
theorem aNZ (cs:List AV) (o:Nat) (h:34≤cs.length-o):fD Tryz.prog 118 cs o=some (.agg (rd cs o 34)):=by
 have:fS Tryz.prog 118=some (true,34):=by kernel_rfl
 simp[fD,this,h]
theorem aFO:sT Tryz.prog 118=some 34:=by kernel_rfl
theorem aEd:aY Tryz.prog 118 0=some 0:=by kernel_rfl
theorem aEe:aY Tryz.prog 118 1=some 33:=by kernel_rfl
theorem aAk:eH Tryz.prog 118=some Nz:=by kernel_rfl
theorem aN0 (st:St) (parts:List (Nat × Operand)):iW Tryz.prog st 118 parts=if (parts.all fun p=>(st.ev p.2).jE)=true then (gT (fun i=>([(0,33),(33,1)]:List (Nat × Nat))[i]?) (cA eI) (parts.map fun p=>(p.1,st.ev p.2))).map .agg else none:=iG (z:=Nz) (by kernel_rfl) CK (fF (by kernel_rfl))
theorem aUb (cs:List AV) (o:Nat) (h:35≤cs.length-o):fD Tryz.prog 63 cs o=some (.agg (rd cs o 35)):=by
 have:fS Tryz.prog 63=some (true,35):=by kernel_rfl
 simp[fD,this,h]
theorem aGW:sT Tryz.prog 63=some 35:=by kernel_rfl
theorem aIq:aY Tryz.prog 63 0=some 0:=by kernel_rfl
theorem aIr:aY Tryz.prog 63 1=some 1:=by kernel_rfl
theorem aIs:aY Tryz.prog 63 2=some 33:=by kernel_rfl
theorem aIt:aY Tryz.prog 63 3=some 34:=by kernel_rfl
theorem aN1:eH Tryz.prog 63=some Sm:=by kernel_rfl
theorem aUc (st:St) (parts:List (Nat × Operand)):iW Tryz.prog st 63 parts=if (parts.all fun p=>(st.ev p.2).jE)=true then (gT (fun i=>([(0,1),(1,32),(33,1),(34,1)]:List (Nat × Nat))[i]?) (dD cZ) (parts.map fun p=>(p.1,st.ev p.2))).map .agg else none:=iG (z:=Sm) (by kernel_rfl) CM (fF (by kernel_rfl))
theorem aUd (cs:List AV) (o:Nat) (h:96≤cs.length-o):fD Tryz.prog 56 cs o=some (.agg (rd cs o 96)):=by
 have:fS Tryz.prog 56=some (true,96):=by kernel_rfl
 simp[fD,this,h]
theorem aUe:sT Tryz.prog 56=some 96:=by kernel_rfl
theorem aIu:aY Tryz.prog 56 0=some 0:=by kernel_rfl
theorem aIv:aY Tryz.prog 56 1=some 32:=by kernel_rfl
theorem aIw:aY Tryz.prog 56 2=some 64:=by kernel_rfl
theorem aN2:eH Tryz.prog 56=some Ju:=by kernel_rfl
theorem aN3 (a b:Command):wV Tryz.prog 56 (eK a) (eK b)=some (decide (a=b)):=sP (l:=TU) (by kernel_rfl) (by kernel_rfl) (by kernel_rfl) (FV a b) (MG a b)
theorem aUf (a b:Command):gM Tryz.prog .eql 56 (.agg (eK a)) (.agg (eK b))=some (.v (.bool (decide (a=b)))):=by simp only[gM,aN3,Option.map_some]
theorem aUg (st:St) (parts:List (Nat × Operand)):iW Tryz.prog st 56 parts=if (parts.all fun p=>(st.ev p.2).jE)=true then (gT (fun i=>([(0,32),(32,32),(64,32)]:List (Nat × Nat))[i]?) (eK CQ) (parts.map fun p=>(p.1,st.ev p.2))).map .agg else none:=iG (z:=Ju) (by kernel_rfl) Ow (fF (by kernel_rfl))
theorem aUh (cs:List AV) (o:Nat) (h:2≤cs.length-o):fD Tryz.prog 39 cs o=some (.agg (rd cs o 2)):=by
 have:fS Tryz.prog 39=some (true,2):=by kernel_rfl
 simp[fD,this,h]
theorem aUi:sT Tryz.prog 39=some 2:=by kernel_rfl
theorem aIx:aY Tryz.prog 39 0=some 0:=by kernel_rfl
theorem aIy:aY Tryz.prog 39 1=some 1:=by kernel_rfl
theorem aUj:eH Tryz.prog 39=some CT:=by kernel_rfl
theorem aUk (st:St) (parts:List (Nat × Operand)):iW Tryz.prog st 39 parts=if (parts.all fun p=>(st.ev p.2).jE)=true then (gT (fun i=>([(0,1),(1,1)]:List (Nat × Nat))[i]?) (eZ Nl) (parts.map fun p=>(p.1,st.ev p.2))).map .agg else none:=iG (z:=CT) (by kernel_rfl) CU (fF (by kernel_rfl))
theorem aUl (cs:List AV) (o:Nat) (h:66≤cs.length-o):fD Tryz.prog 43 cs o=some (.agg (rd cs o 66)):=by
 have:fS Tryz.prog 43=some (true,66):=by kernel_rfl
 simp[fD,this,h]
theorem aUm:sT Tryz.prog 43=some 66:=by kernel_rfl
theorem aIz:aY Tryz.prog 43 0=some 0:=by kernel_rfl
theorem aIA:aY Tryz.prog 43 1=some 33:=by kernel_rfl
theorem aUn:eH Tryz.prog 43=some Fo:=by kernel_rfl
theorem aN4 (a b:jA):wV Tryz.prog 43 (eR a) (eR b)=some (decide (a=b)):=sP (l:=IK) (by kernel_rfl) (by kernel_rfl) (by kernel_rfl) (CV a b) (FW a b)
theorem aUo (a b:jA):gM Tryz.prog .neq 43 (.agg (eR a)) (.agg (eR b))=some (.v (.bool (!(decide (a=b))))):=by simp only[gM,aN4,Option.map_some]
theorem aUp (st:St) (parts:List (Nat × Operand)):iW Tryz.prog st 43 parts=if (parts.all fun p=>(st.ev p.2).jE)=true then (gT (fun i=>([(0,33),(33,33)]:List (Nat × Nat))[i]?) (eR Ve) (parts.map fun p=>(p.1,st.ev p.2))).map .agg else none:=iG (z:=Fo) (by kernel_rfl) Jw (fF (by kernel_rfl))
theorem aUq:sT Tryz.prog 47=some 2:=by kernel_rfl
theorem aIB:aY Tryz.prog 47 0=some 0:=by kernel_rfl
theorem aIC:aY Tryz.prog 47 1=some 1:=by kernel_rfl
theorem aUr:eH Tryz.prog 47=some Yi:=by kernel_rfl
theorem aUs (cs:List AV) (o:Nat) (h:150≤cs.length-o):fD Tryz.prog 53 cs o=some (.agg (rd cs o 150)):=by
 have:fS Tryz.prog 53=some (true,150):=by kernel_rfl
 simp[fD,this,h]
theorem aUt:sT Tryz.prog 53=some 150:=by kernel_rfl
theorem aID:aY Tryz.prog 53 0=some 0:=by kernel_rfl
theorem aIE:aY Tryz.prog 53 1=some 45:=by kernel_rfl
theorem aIF:aY Tryz.prog 53 2=some 47:=by kernel_rfl
theorem aIG:aY Tryz.prog 53 3=some 113:=by kernel_rfl
theorem aIH:aY Tryz.prog 53 4=some 115:=by kernel_rfl
theorem aII:aY Tryz.prog 53 5=some 116:=by kernel_rfl
theorem aIJ:aY Tryz.prog 53 6=some 117:=by kernel_rfl
theorem aIK:aY Tryz.prog 53 7=some 149:=by kernel_rfl
theorem aUu:eH Tryz.prog 53=some CY:=by kernel_rfl
theorem aUv (st:St) (parts:List (Nat × Operand)):iW Tryz.prog st 53 parts=if (parts.all fun p=>(st.ev p.2).jE)=true then (gT (fun i=>([(0,45),(45,2),(47,66),(113,2),(115,1),(116,1),(117,32),(149,1)]:List (Nat × Nat))[i]?) (aA fW) (parts.map fun p=>(p.1,st.ev p.2))).map .agg else none:=iG (z:=CY) (by kernel_rfl) CZ (fF (by kernel_rfl))
theorem aUw (cs:List AV) (o:Nat) (h:252≤cs.length-o):fD Tryz.prog 58 cs o=some (.agg (rd cs o 252)):=by
 have:fS Tryz.prog 58=some (true,252):=by kernel_rfl
 simp[fD,this,h]
theorem aUx:sT Tryz.prog 58=some 252:=by kernel_rfl
theorem aIL:aY Tryz.prog 58 0=some 0:=by kernel_rfl
theorem aIM:aY Tryz.prog 58 1=some 150:=by kernel_rfl
theorem aIN:aY Tryz.prog 58 2=some 151:=by kernel_rfl
theorem aIO:aY Tryz.prog 58 3=some 152:=by kernel_rfl
theorem aIP:aY Tryz.prog 58 4=some 153:=by kernel_rfl
theorem aIQ:aY Tryz.prog 58 5=some 154:=by kernel_rfl
theorem aIR:aY Tryz.prog 58 6=some 250:=by kernel_rfl
theorem aIS:aY Tryz.prog 58 7=some 251:=by kernel_rfl
theorem aUy:eH Tryz.prog 58=some MM:=by kernel_rfl
theorem aUz (st:St) (parts:List (Nat × Operand)):iW Tryz.prog st 58 parts=if (parts.all fun p=>(st.ev p.2).jE)=true then (gT (fun i=>([(0,150),(150,1),(151,1),(152,1),(153,1),(154,96),(250,1),(251,1)]:List (Nat × Nat))[i]?) (aT lX) (parts.map fun p=>(p.1,st.ev p.2))).map .agg else none:=iG (z:=MM) (by kernel_rfl) TW (fF (by kernel_rfl))
theorem aN5 (cs:List AV) (o:Nat) (h:446≤cs.length-o):fD Tryz.prog 190 cs o=some (.agg (rd cs o 446)):=by
 have:fS Tryz.prog 190=some (true,446):=by kernel_rfl
 simp[fD,this,h]
theorem aN6:sT Tryz.prog 190=some 446:=by kernel_rfl
theorem aEf:aY Tryz.prog 190 0=some 0:=by kernel_rfl
theorem aEg:aY Tryz.prog 190 1=some 1:=by kernel_rfl
theorem aEh:aY Tryz.prog 190 2=some 239:=by kernel_rfl
theorem aEi:aY Tryz.prog 190 3=some 306:=by kernel_rfl
theorem aEj:aY Tryz.prog 190 4=some 376:=by kernel_rfl
theorem aEk:aY Tryz.prog 190 5=some 410:=by kernel_rfl
theorem aEl:aY Tryz.prog 190 6=some 444:=by kernel_rfl
theorem aEm:aY Tryz.prog 190 7=some 445:=by kernel_rfl
theorem aF1:eH Tryz.prog 190=some aD3:=by kernel_rfl
theorem aN7 (st:St) (parts:List (Nat × Operand)):iW Tryz.prog st 190 parts=if (parts.all fun p=>(st.ev p.2).jE)=true then (gT (fun i=>([(0,1),(1,238),(239,67),(306,70),(376,34),(410,34),(444,1),(445,1)]:List (Nat × Nat))[i]?) (lB An) (parts.map fun p=>(p.1,st.ev p.2))).map .agg else none:=iG (z:=aD3) (by kernel_rfl) aBw (fF (by kernel_rfl))
theorem aIT (cs:List AV) (h:150≤cs.length):Cq Tryz.prog 58 0 (.agg cs)=some (.agg (rd cs 0 150)):=YI (by kernel_rfl) h
theorem aIU (cs:List AV):Cq Tryz.prog 41 0 (.agg cs)=cs[0]?:=YJ (k:=1) (by kernel_rfl)
theorem Nd:dT Tryz.prog 22=some (3,1,8):=by kernel_rfl
theorem aEn:jK Tryz.prog 22=none:=by kernel_rfl
theorem aUA (cs:List AV) (o:Nat):fD Tryz.prog 22 cs o=cs[o]?:=by
 have:fS Tryz.prog 22=some (false,1):=by kernel_rfl
 simp only[fD,this]
theorem aUB:sT Tryz.prog 22=some 1:=by kernel_rfl
theorem aUC:eH Tryz.prog 22=some [.slice none 0 0]:=by kernel_rfl
theorem aUD (n:Nat) (cs:List AV) (h:cs≠[]):gM Tryz.prog .eql 22 (.sl n cs) (.v (.slice none 0 0))=some (.v (.bool false)):=by
 have:Tryz.prog.underlying 22=some (.slice 3):=by kernel_rfl
 cases cs with
 | nil=>exact absurd rfl h
 | cons c cs=>simp[gM,tZ,this]
theorem aUE:gM Tryz.prog .eql 22 (.v (.slice none 0 0)) (.v (.slice none 0 0))=some (.v (.bool true)):=by
 have:Tryz.prog.underlying 22=some (.slice 3):=by kernel_rfl
 simp[gM,tZ,this]
theorem ZS:dT Tryz.prog 34=some (23,1,8):=by kernel_rfl
theorem aIV:jK Tryz.prog 34=none:=by kernel_rfl
theorem aUF (cs:List AV) (o:Nat):fD Tryz.prog 34 cs o=cs[o]?:=by
 have:fS Tryz.prog 34=some (false,1):=by kernel_rfl
 simp only[fD,this]
theorem aUG:sT Tryz.prog 34=some 1:=by kernel_rfl
theorem aUH:eH Tryz.prog 34=some [.slice none 0 0]:=by kernel_rfl
theorem aUI (n:Nat) (cs:List AV) (h:cs≠[]):gM Tryz.prog .eql 34 (.sl n cs) (.v (.slice none 0 0))=some (.v (.bool false)):=by
 have:Tryz.prog.underlying 34=some (.slice 23):=by kernel_rfl
 cases cs with
 | nil=>exact absurd rfl h
 | cons c cs=>simp[gM,tZ,this]
theorem aUJ:gM Tryz.prog .eql 34 (.v (.slice none 0 0)) (.v (.slice none 0 0))=some (.v (.bool true)):=by
 have:Tryz.prog.underlying 34=some (.slice 23):=by kernel_rfl
 simp[gM,tZ,this]
theorem N4:dT Tryz.prog 37=some (100,34,48):=by kernel_rfl
theorem aIW:jK Tryz.prog 37=none:=by kernel_rfl
theorem aUK (cs:List AV) (o:Nat):fD Tryz.prog 37 cs o=cs[o]?:=by
 have:fS Tryz.prog 37=some (false,1):=by kernel_rfl
 simp only[fD,this]
theorem aUL:sT Tryz.prog 37=some 1:=by kernel_rfl
theorem aUM:eH Tryz.prog 37=some [.slice none 0 0]:=by kernel_rfl
theorem aUN (n:Nat) (cs:List AV) (h:cs≠[]):gM Tryz.prog .eql 37 (.sl n cs) (.v (.slice none 0 0))=some (.v (.bool false)):=by
 have:Tryz.prog.underlying 37=some (.slice 100):=by kernel_rfl
 cases cs with
 | nil=>exact absurd rfl h
 | cons c cs=>simp[gM,tZ,this]
theorem aUO:gM Tryz.prog .eql 37 (.v (.slice none 0 0)) (.v (.slice none 0 0))=some (.v (.bool true)):=by
 have:Tryz.prog.underlying 37=some (.slice 100):=by kernel_rfl
 simp[gM,tZ,this]
theorem aBx:dT Tryz.prog 44=some (87,67,104):=by kernel_rfl
theorem aN8:jK Tryz.prog 44=none:=by kernel_rfl
theorem aUP (cs:List AV) (o:Nat):fD Tryz.prog 44 cs o=cs[o]?:=by
 have:fS Tryz.prog 44=some (false,1):=by kernel_rfl
 simp only[fD,this]
theorem aUQ:sT Tryz.prog 44=some 1:=by kernel_rfl
theorem aUR:eH Tryz.prog 44=some [.slice none 0 0]:=by kernel_rfl
theorem mW:dT Tryz.prog 45=some (74,238,336):=by kernel_rfl
theorem aIX:jK Tryz.prog 45=none:=by kernel_rfl
theorem aUS (cs:List AV) (o:Nat):fD Tryz.prog 45 cs o=cs[o]?:=by
 have:fS Tryz.prog 45=some (false,1):=by kernel_rfl
 simp only[fD,this]
theorem aUT:sT Tryz.prog 45=some 1:=by kernel_rfl
theorem aUU:eH Tryz.prog 45=some [.slice none 0 0]:=by kernel_rfl
theorem aUV (n:Nat) (cs:List AV) (h:cs≠[]):gM Tryz.prog .eql 45 (.sl n cs) (.v (.slice none 0 0))=some (.v (.bool false)):=by
 have:Tryz.prog.underlying 45=some (.slice 74):=by kernel_rfl
 cases cs with
 | nil=>exact absurd rfl h
 | cons c cs=>simp[gM,tZ,this]
theorem aUW:gM Tryz.prog .eql 45 (.v (.slice none 0 0)) (.v (.slice none 0 0))=some (.v (.bool true)):=by
 have:Tryz.prog.underlying 45=some (.slice 74):=by kernel_rfl
 simp[gM,tZ,this]
theorem TZ:dT Tryz.prog 48=some (76,240,352):=by kernel_rfl
theorem aIY:jK Tryz.prog 48=none:=by kernel_rfl
theorem aUX (cs:List AV) (o:Nat):fD Tryz.prog 48 cs o=cs[o]?:=by
 have:fS Tryz.prog 48=some (false,1):=by kernel_rfl
 simp only[fD,this]
theorem aUY:sT Tryz.prog 48=some 1:=by kernel_rfl
theorem aUZ:eH Tryz.prog 48=some [.slice none 0 0]:=by kernel_rfl
theorem aU0 (n:Nat) (cs:List AV) (h:cs≠[]):gM Tryz.prog .eql 48 (.sl n cs) (.v (.slice none 0 0))=some (.v (.bool false)):=by
 have:Tryz.prog.underlying 48=some (.slice 76):=by kernel_rfl
 cases cs with
 | nil=>exact absurd rfl h
 | cons c cs=>simp[gM,tZ,this]
theorem Tu:dT Tryz.prog 51=some (118,34,64):=by kernel_rfl
theorem aIZ:jK Tryz.prog 51=none:=by kernel_rfl
theorem aU1 (cs:List AV) (o:Nat):fD Tryz.prog 51 cs o=cs[o]?:=by
 have:fS Tryz.prog 51=some (false,1):=by kernel_rfl
 simp only[fD,this]
theorem aU2:sT Tryz.prog 51=some 1:=by kernel_rfl
theorem aU3:eH Tryz.prog 51=some [.slice none 0 0]:=by kernel_rfl
theorem To:dT Tryz.prog 54=some (63,35,56):=by kernel_rfl
theorem aI0:jK Tryz.prog 54=none:=by kernel_rfl
theorem aU4 (cs:List AV) (o:Nat):fD Tryz.prog 54 cs o=cs[o]?:=by
 have:fS Tryz.prog 54=some (false,1):=by kernel_rfl
 simp only[fD,this]
theorem aU5:sT Tryz.prog 54=some 1:=by kernel_rfl
theorem aU6:eH Tryz.prog 54=some [.slice none 0 0]:=by kernel_rfl
theorem aEo:dT Tryz.prog 70=some (27,32,32):=by kernel_rfl
theorem aN9:jK Tryz.prog 70=none:=by kernel_rfl
theorem aU7:sT Tryz.prog 70=some 1:=by kernel_rfl
theorem aU8:eH Tryz.prog 70=some [.slice none 0 0]:=by kernel_rfl
theorem OK:dT Tryz.prog 109=some (41,33,40):=by kernel_rfl
theorem aBy:jK Tryz.prog 109=none:=by kernel_rfl
theorem aOa:sT Tryz.prog 109=some 1:=by kernel_rfl
theorem aOb:eH Tryz.prog 109=some [.slice none 0 0]:=by kernel_rfl
theorem D6:dT Tryz.prog 124=some (190,446,720):=by kernel_rfl
theorem aOc:jK Tryz.prog 124=none:=by kernel_rfl
theorem aOd:sT Tryz.prog 124=some 1:=by kernel_rfl
theorem aOe:eH Tryz.prog 124=some [.slice none 0 0]:=by kernel_rfl
theorem aF2:dT Tryz.prog 181=some (56,96,96):=by kernel_rfl
theorem aOf:jK Tryz.prog 181=none:=by kernel_rfl
theorem aOg:sT Tryz.prog 181=some 1:=by kernel_rfl
theorem aOh:eH Tryz.prog 181=some [.slice none 0 0]:=by kernel_rfl
theorem D7:dT Tryz.prog 236=some (5,1,1):=by kernel_rfl
theorem aOi:jK Tryz.prog 236=none:=by kernel_rfl
theorem aOj:sT Tryz.prog 236=some 1:=by kernel_rfl
theorem aOk:eH Tryz.prog 236=some [.slice none 0 0]:=by kernel_rfl
theorem UA:dT Tryz.prog 262=some (4,1,1):=by kernel_rfl
theorem aF3:jK Tryz.prog 262=none:=by kernel_rfl
theorem aOl:sT Tryz.prog 262=some 1:=by kernel_rfl
theorem aOm:eH Tryz.prog 262=some [.slice none 0 0]:=by kernel_rfl
theorem aU9 {call:Nat→List AV→Option AV} {ops:Array Oper} {st:St} {T:Nat} {pos:String} {eW:Array Edge} (d:Nat):cH Tryz.prog call ops ⟨some d,.buildSlice 22 0 #[],T,pos,eW,none⟩ st=some ((st.new d (.row 3 1 0 [])).put (some d) (.own d (st.aU d))):=Uo Nd ze3 d
theorem aVa (st:St) (x:AV):dH Tryz.prog st 34 (.v (.slice none 0 0)) x=yW 23 1 8 (aX st x):=uU ZS x
theorem aVb (st:St) (s g:Nat) (x:AV):dH Tryz.prog st 34 (.own s g) x=yL 23 1 8 (st.heap s g) s g (aX st x):=rU ZS s g x
theorem aVc (st:St) (s g:Nat) (kk:IntKind) (i:Int):bH Tryz.prog st 34 (.own s g) (.v (.int kk i))=NI 23 1 (st.heap s g) s g i:=Lo aIV ZS s g kk i
theorem aVd {call:Nat→List AV→Option AV} {ops:Array Oper} {st:St} {T:Nat} {pos:String} {eW:Array Edge} (d:Nat):cH Tryz.prog call ops ⟨some d,.buildSlice 34 0 #[],T,pos,eW,none⟩ st=some ((st.new d (.row 23 1 0 [])).put (some d) (.own d (st.aU d))):=Uo ZS aHJ d
theorem aVe {call:Nat→List AV→Option AV} {ops:Array Oper} {st:St} {T:Nat} {pos:String} {eW:Array Edge} (d:Nat) (x:Operand):cH Tryz.prog call ops ⟨some d,.buildSlice 34 1 #[(0,x)],T,pos,eW,none⟩ st=elV (st.ev x) (fun y=>some ((st.new d (.row 23 1 1 [.v y])).put (some d) (.own d (st.aU d)))) (cH Tryz.prog call ops ⟨some d,.buildSlice 34 1 #[(0,x)],T,pos,eW,none⟩ st):=LP ZS aHJ d x
theorem aVf (st:St) (x:AV):dH Tryz.prog st 37 (.v (.slice none 0 0)) x=yW 100 34 48 (aX st x):=uU N4 x
theorem aVg (st:St) (s g:Nat) (x:AV):dH Tryz.prog st 37 (.own s g) x=yL 100 34 48 (st.heap s g) s g (aX st x):=rU N4 s g x
theorem aVh (st:St) (s g:Nat) (kk:IntKind) (i:Int):bH Tryz.prog st 37 (.own s g) (.v (.int kk i))=NI 100 34 (st.heap s g) s g i:=Lo aIW N4 s g kk i
theorem aVi {call:Nat→List AV→Option AV} {ops:Array Oper} {st:St} {T:Nat} {pos:String} {eW:Array Edge} (d:Nat):cH Tryz.prog call ops ⟨some d,.buildSlice 37 0 #[],T,pos,eW,none⟩ st=some ((st.new d (.row 100 34 0 [])).put (some d) (.own d (st.aU d))):=Uo N4 aFZ d
theorem aVj (st:St) (x:AV):dH Tryz.prog st 44 (.v (.slice none 0 0)) x=yW 87 67 104 (aX st x):=uU aBx x
theorem aVk (st:St) (s g:Nat) (x:AV):dH Tryz.prog st 44 (.own s g) x=yL 87 67 104 (st.heap s g) s g (aX st x):=rU aBx s g x
theorem aVl {call:Nat→List AV→Option AV} {ops:Array Oper} {st:St} {T:Nat} {pos:String} {eW:Array Edge} (d:Nat) (x:Operand):cH Tryz.prog call ops ⟨some d,.buildSlice 44 1 #[(0,x)],T,pos,eW,none⟩ st=M4 67 (st.ev x) (fun cs=>some ((st.new d (.row 87 67 1 cs)).put (some d) (.own d (st.aU d)))) (cH Tryz.prog call ops ⟨some d,.buildSlice 44 1 #[(0,x)],T,pos,eW,none⟩ st):=Cl aBx aNQ (by rfl) (by decide) d x
theorem aVm (st:St) (x:AV):dH Tryz.prog st 45 (.v (.slice none 0 0)) x=yW 74 238 336 (aX st x):=uU mW x
theorem aVn (st:St) (s g:Nat) (x:AV):dH Tryz.prog st 45 (.own s g) x=yL 74 238 336 (st.heap s g) s g (aX st x):=rU mW s g x
theorem aVo (st:St) (s g:Nat) (kk:IntKind) (i:Int):bH Tryz.prog st 45 (.own s g) (.v (.int kk i))=NI 74 238 (st.heap s g) s g i:=Lo aIX mW s g kk i
theorem aVp {call:Nat→List AV→Option AV} {ops:Array Oper} {st:St} {T:Nat} {pos:String} {eW:Array Edge} (d:Nat):cH Tryz.prog call ops ⟨some d,.buildSlice 45 0 #[],T,pos,eW,none⟩ st=some ((st.new d (.row 74 238 0 [])).put (some d) (.own d (st.aU d))):=Uo mW aAl d
theorem aVq {call:Nat→List AV→Option AV} {ops:Array Oper} {st:St} {T:Nat} {pos:String} {eW:Array Edge} (d:Nat) (x:Operand):cH Tryz.prog call ops ⟨some d,.buildSlice 45 1 #[(0,x)],T,pos,eW,none⟩ st=M4 238 (st.ev x) (fun cs=>some ((st.new d (.row 74 238 1 cs)).put (some d) (.own d (st.aU d)))) (cH Tryz.prog call ops ⟨some d,.buildSlice 45 1 #[(0,x)],T,pos,eW,none⟩ st):=Cl mW aAl (by rfl) (by decide) d x
theorem aVr {call:Nat→List AV→Option AV} {ops:Array Oper} {st:St} {T:Nat} {pos:String} {eW:Array Edge} (d:Nat):cH Tryz.prog call ops ⟨some d,.buildSlice 48 0 #[],T,pos,eW,none⟩ st=some ((st.new d (.row 76 240 0 [])).put (some d) (.own d (st.aU d))):=Uo TZ aH4 d
theorem aVs (st:St) (x:AV):dH Tryz.prog st 51 (.v (.slice none 0 0)) x=yW 118 34 64 (aX st x):=uU Tu x
theorem aVt (st:St) (s g:Nat) (x:AV):dH Tryz.prog st 51 (.own s g) x=yL 118 34 64 (st.heap s g) s g (aX st x):=rU Tu s g x
theorem aVu (st:St) (s g:Nat) (kk:IntKind) (i:Int):bH Tryz.prog st 51 (.own s g) (.v (.int kk i))=NI 118 34 (st.heap s g) s g i:=Lo aIZ Tu s g kk i
theorem aVv {call:Nat→List AV→Option AV} {ops:Array Oper} {st:St} {T:Nat} {pos:String} {eW:Array Edge} (d:Nat) (x:Operand):cH Tryz.prog call ops ⟨some d,.buildSlice 51 1 #[(0,x)],T,pos,eW,none⟩ st=M4 34 (st.ev x) (fun cs=>some ((st.new d (.row 118 34 1 cs)).put (some d) (.own d (st.aU d)))) (cH Tryz.prog call ops ⟨some d,.buildSlice 51 1 #[(0,x)],T,pos,eW,none⟩ st):=Cl Tu aAk (by rfl) (by decide) d x
theorem aVw (st:St) (x:AV):dH Tryz.prog st 54 (.v (.slice none 0 0)) x=yW 63 35 56 (aX st x):=uU To x
theorem aVx (st:St) (s g:Nat) (x:AV):dH Tryz.prog st 54 (.own s g) x=yL 63 35 56 (st.heap s g) s g (aX st x):=rU To s g x
theorem aVy (st:St) (s g:Nat) (kk:IntKind) (i:Int):bH Tryz.prog st 54 (.own s g) (.v (.int kk i))=NI 63 35 (st.heap s g) s g i:=Lo aI0 To s g kk i
theorem aVz {call:Nat→List AV→Option AV} {ops:Array Oper} {st:St} {T:Nat} {pos:String} {eW:Array Edge} (d:Nat) (x:Operand):cH Tryz.prog call ops ⟨some d,.buildSlice 54 1 #[(0,x)],T,pos,eW,none⟩ st=M4 35 (st.ev x) (fun cs=>some ((st.new d (.row 63 35 1 cs)).put (some d) (.own d (st.aU d)))) (cH Tryz.prog call ops ⟨some d,.buildSlice 54 1 #[(0,x)],T,pos,eW,none⟩ st):=Cl To aN1 (by rfl) (by decide) d x
theorem aVA (st:St) (s g:Nat) (x:AV):dH Tryz.prog st 70 (.own s g) x=yL 27 32 32 (st.heap s g) s g (aX st x):=rU aEo s g x
theorem aVB {call:Nat→List AV→Option AV} {ops:Array Oper} {st:St} {T:Nat} {pos:String} {eW:Array Edge} (d:Nat) (x:Operand):cH Tryz.prog call ops ⟨some d,.buildSlice 70 1 #[(0,x)],T,pos,eW,none⟩ st=M4 32 (st.ev x) (fun cs=>some ((st.new d (.row 27 32 1 cs)).put (some d) (.own d (st.aU d)))) (cH Tryz.prog call ops ⟨some d,.buildSlice 70 1 #[(0,x)],T,pos,eW,none⟩ st):=Cl aEo aNI (by rfl) (by decide) d x
theorem aOn (st:St) (s g:Nat) (kk:IntKind) (i:Int):bH Tryz.prog st 109 (.own s g) (.v (.int kk i))=NI 41 33 (st.heap s g) s g i:=Lo aBy OK s g kk i
theorem aOo {call:Nat→List AV→Option AV} {ops:Array Oper} {st:St} {T:Nat} {pos:String} {eW:Array Edge} (d:Nat) (x:Operand):cH Tryz.prog call ops ⟨some d,.buildSlice 109 1 #[(0,x)],T,pos,eW,none⟩ st=M4 33 (st.ev x) (fun cs=>some ((st.new d (.row 41 33 1 cs)).put (some d) (.own d (st.aU d)))) (cH Tryz.prog call ops ⟨some d,.buildSlice 109 1 #[(0,x)],T,pos,eW,none⟩ st):=Cl OK aGs (by rfl) (by decide) d x
theorem aOp (st:St) (x:AV):dH Tryz.prog st 124 (.v (.slice none 0 0)) x=yW 190 446 720 (aX st x):=uU D6 x
theorem aOq (st:St) (s g:Nat) (x:AV):dH Tryz.prog st 124 (.own s g) x=yL 190 446 720 (st.heap s g) s g (aX st x):=rU D6 s g x
theorem aOr {call:Nat→List AV→Option AV} {ops:Array Oper} {st:St} {T:Nat} {pos:String} {eW:Array Edge} (d:Nat) (x:Operand):cH Tryz.prog call ops ⟨some d,.buildSlice 124 1 #[(0,x)],T,pos,eW,none⟩ st=M4 446 (st.ev x) (fun cs=>some ((st.new d (.row 190 446 1 cs)).put (some d) (.own d (st.aU d)))) (cH Tryz.prog call ops ⟨some d,.buildSlice 124 1 #[(0,x)],T,pos,eW,none⟩ st):=Cl D6 aF1 (by rfl) (by decide) d x
theorem aOs {call:Nat→List AV→Option AV} {ops:Array Oper} {st:St} {T:Nat} {pos:String} {eW:Array Edge} (d:Nat) (x:Operand):cH Tryz.prog call ops ⟨some d,.buildSlice 181 1 #[(0,x)],T,pos,eW,none⟩ st=M4 96 (st.ev x) (fun cs=>some ((st.new d (.row 56 96 1 cs)).put (some d) (.own d (st.aU d)))) (cH Tryz.prog call ops ⟨some d,.buildSlice 181 1 #[(0,x)],T,pos,eW,none⟩ st):=Cl aF2 aN2 (by rfl) (by decide) d x
theorem aOt (st:St) (x:AV):dH Tryz.prog st 236 (.v (.slice none 0 0)) x=yW 5 1 1 (aX st x):=uU D7 x
theorem aOu (st:St) (s g:Nat) (x:AV):dH Tryz.prog st 236 (.own s g) x=yL 5 1 1 (st.heap s g) s g (aX st x):=rU D7 s g x
theorem aOv {call:Nat→List AV→Option AV} {ops:Array Oper} {st:St} {T:Nat} {pos:String} {eW:Array Edge} (d:Nat) (x:Operand):cH Tryz.prog call ops ⟨some d,.buildSlice 236 1 #[(0,x)],T,pos,eW,none⟩ st=elV (st.ev x) (fun y=>some ((st.new d (.row 5 1 1 [.v y])).put (some d) (.own d (st.aU d)))) (cH Tryz.prog call ops ⟨some d,.buildSlice 236 1 #[(0,x)],T,pos,eW,none⟩ st):=LP D7 ze5 d x
theorem aOw (st:St) (x:AV):dH Tryz.prog st 262 (.v (.slice none 0 0)) x=yW 4 1 1 (aX st x):=uU UA x
theorem aOx (st:St) (s g:Nat) (x:AV):dH Tryz.prog st 262 (.own s g) x=yL 4 1 1 (st.heap s g) s g (aX st x):=rU UA s g x
theorem aOy {call:Nat→List AV→Option AV} {ops:Array Oper} {st:St} {T:Nat} {pos:String} {eW:Array Edge} (d:Nat) (x:Operand):cH Tryz.prog call ops ⟨some d,.buildSlice 262 1 #[(0,x)],T,pos,eW,none⟩ st=elV (st.ev x) (fun y=>some ((st.new d (.row 4 1 1 [.v y])).put (some d) (.own d (st.aU d)))) (cH Tryz.prog call ops ⟨some d,.buildSlice 262 1 #[(0,x)],T,pos,eW,none⟩ st):=LP UA ze4 d x
theorem aSV:bK Tryz.f18=true:=by kernel_rfl
theorem aR9:bK Tryz.f24=true:=by kernel_rfl
theorem aRB:sV Tryz.f25=true:=by kernel_rfl
theorem aRY:sV Tryz.f27=true:=by kernel_rfl
theorem aPl:bK Tryz.f30=true:=by kernel_rfl
theorem aRw:bK Tryz.f32=true:=by kernel_rfl
theorem aPF:bK Tryz.f34=true:=by kernel_rfl
theorem aRv:bK Tryz.f36=true:=by kernel_rfl
theorem aRA:bK Tryz.f37=true:=by kernel_rfl
theorem aQk:bK Tryz.f39=true:=by kernel_rfl
theorem aQh:bK Tryz.f40=true:=by kernel_rfl
theorem aSB:sV Tryz.f42=true:=by kernel_rfl
theorem aQx:bK Tryz.f44=true:=by kernel_rfl
theorem aRi:bK Tryz.f45=true:=by kernel_rfl
theorem aPh:bK Tryz.f46=true:=by kernel_rfl
theorem aPk:bK Tryz.f47=true:=by kernel_rfl
theorem aJU:bK Tryz.f49=true:=by kernel_rfl
theorem aRC:sV Tryz.f50=true:=by kernel_rfl
theorem aQn:bK Tryz.f52=true:=by kernel_rfl
theorem aQj:bK Tryz.f54=true:=by kernel_rfl
theorem aSO:sV Tryz.f56=true:=by kernel_rfl
theorem aSQ:bK Tryz.f57=true:=by kernel_rfl
theorem aSG:sV Tryz.f58=true:=by kernel_rfl
theorem aQp:sV Tryz.f59=true:=by kernel_rfl
theorem aNi:sV Tryz.f60=true:=by kernel_rfl
theorem aQq:sV Tryz.f61=true:=by kernel_rfl
theorem aSN:bK Tryz.f62=true:=by kernel_rfl
theorem aPS:bK Tryz.f64=true:=by kernel_rfl
theorem aQc:bK Tryz.f65=true:=by kernel_rfl
theorem aQo:bK Tryz.f67=true:=by kernel_rfl
theorem aQl:bK Tryz.f69=true:=by kernel_rfl
theorem aRP:bK Tryz.f72=true:=by kernel_rfl
theorem aRO:sV Tryz.f74=true:=by kernel_rfl
theorem aR8:sV Tryz.f75=true:=by kernel_rfl
theorem aJW:bK Tryz.f76=true:=by kernel_rfl
theorem aRs:bK Tryz.f85=true:=by kernel_rfl
theorem aRt:bK Tryz.f86=true:=by kernel_rfl
theorem aPf:bK Tryz.f87=true:=by kernel_rfl
theorem aPN:bK Tryz.f89=true:=by kernel_rfl
theorem aRu:bK Tryz.f91=true:=by kernel_rfl
theorem aRl:bK Tryz.f92=true:=by kernel_rfl
theorem aQC:bK Tryz.f94=true:=by kernel_rfl
theorem aLg:bK Tryz.f95=true:=by kernel_rfl
theorem aP5:bK Tryz.f97=true:=by kernel_rfl
theorem aP6:bK Tryz.f98=true:=by kernel_rfl
theorem aP8:bK Tryz.f99=true:=by kernel_rfl
theorem aJ7:bK Tryz.f100=true:=by kernel_rfl
theorem aFB:bK Tryz.f101=true:=by kernel_rfl
theorem aLR:bK Tryz.f102=true:=by kernel_rfl
theorem aFo:bK Tryz.f103=true:=by kernel_rfl
theorem aM1:bK Tryz.f104=true:=by kernel_rfl
theorem aFn:bK Tryz.f105=true:=by kernel_rfl
theorem aKc:bK Tryz.f106=true:=by kernel_rfl
theorem aM3:bK Tryz.f107=true:=by kernel_rfl
theorem aFp:bK Tryz.f108=true:=by kernel_rfl
theorem aFK:bK Tryz.f109=true:=by kernel_rfl
theorem aK8:bK Tryz.f110=true:=by kernel_rfl
theorem aMl:bK Tryz.f111=true:=by kernel_rfl
theorem aKQ:bK Tryz.f114=true:=by kernel_rfl
theorem aK5:bK Tryz.f117=true:=by kernel_rfl
theorem aNd:bK Tryz.f118=true:=by kernel_rfl
theorem aNc:bK Tryz.f119=true:=by kernel_rfl
theorem aM7:bK Tryz.f120=true:=by kernel_rfl
theorem aKa:bK Tryz.f121=true:=by kernel_rfl
theorem aKF:bK Tryz.f122=true:=by kernel_rfl
theorem aM9:bK Tryz.f124=true:=by kernel_rfl
theorem aKd:bK Tryz.f125=true:=by kernel_rfl
theorem aNb:bK Tryz.f127=true:=by kernel_rfl
theorem aKH:bK Tryz.f128=true:=by kernel_rfl
theorem aFb:bK Tryz.f130=true:=by kernel_rfl
theorem aKU:bK Tryz.f131=true:=by kernel_rfl
theorem aKD:bK Tryz.f137=true:=by kernel_rfl
theorem aMp:bK Tryz.f143=true:=by kernel_rfl
theorem aMI:bK Tryz.f144=true:=by kernel_rfl
theorem S6:bK Tryz.f145=true:=by kernel_rfl
theorem aMy:bK Tryz.f146=true:=by kernel_rfl
theorem aMF:bK Tryz.f147=true:=by kernel_rfl
theorem aJZ:bK Tryz.f149=true:=by kernel_rfl
theorem aKh:bK Tryz.f150=true:=by kernel_rfl
theorem aKf:bK Tryz.f151=true:=by kernel_rfl
theorem aLe:bK Tryz.f152=true:=by kernel_rfl
theorem aLf:bK Tryz.f153=true:=by kernel_rfl
theorem aJ6:bK Tryz.f154=true:=by kernel_rfl
theorem aJ3:bK Tryz.f155=true:=by kernel_rfl
theorem aJ4:bK Tryz.f156=true:=by kernel_rfl
theorem aJY:bK Tryz.f157=true:=by kernel_rfl
theorem aK0:bK Tryz.f158=true:=by kernel_rfl
theorem aFq:bK Tryz.f159=true:=by kernel_rfl
theorem aFG:bK Tryz.f160=true:=by kernel_rfl
theorem aMV:bK Tryz.f161=true:=by kernel_rfl
theorem aMQ:bK Tryz.f162=true:=by kernel_rfl
theorem aMN:bK Tryz.f163=true:=by kernel_rfl
theorem aFJ:bK Tryz.f164=true:=by kernel_rfl
theorem aKp:bK Tryz.f165=true:=by kernel_rfl
theorem aMT:bK Tryz.f166=true:=by kernel_rfl
theorem aKP:bK Tryz.f169=true:=by kernel_rfl
theorem aKN:bK Tryz.f170=true:=by kernel_rfl
theorem aM6:bK Tryz.f171=true:=by kernel_rfl
theorem aK3:bK Tryz.f172=true:=by kernel_rfl
theorem aM5:bK Tryz.f173=true:=by kernel_rfl
theorem aE9:bK Tryz.f175=true:=by kernel_rfl
theorem aKK:bK Tryz.f176=true:=by kernel_rfl
theorem aLN:sV Tryz.f181=true:=by kernel_rfl
theorem aMn:bK Tryz.f182=true:=by kernel_rfl
theorem aMo:bK Tryz.f183=true:=by kernel_rfl
theorem aMj:sV Tryz.f184=true:=by kernel_rfl
theorem aMD:bK Tryz.f185=true:=by kernel_rfl
theorem aJT:bK Tryz.f186=true:=by kernel_rfl
theorem aJ0:bK Tryz.f188=true:=by kernel_rfl
theorem aJ2:bK Tryz.f189=true:=by kernel_rfl
theorem aFH:bK Tryz.f190=true:=by kernel_rfl
theorem aFI:bK Tryz.f191=true:=by kernel_rfl
theorem aKo:bK Tryz.f192=true:=by kernel_rfl
theorem aMS:bK Tryz.f193=true:=by kernel_rfl
theorem aMO:bK Tryz.f194=true:=by kernel_rfl
theorem aK2:sV Tryz.f195=true:=by kernel_rfl
theorem aJ5:bK Tryz.f196=true:=by kernel_rfl
theorem aLL:bK Tryz.f199=true:=by kernel_rfl
theorem aMi:bK Tryz.f200=true:=by kernel_rfl
theorem aL2:bK Tryz.f201=true:=by kernel_rfl
theorem aMu:sV Tryz.f202=true:=by kernel_rfl
theorem aMC:bK Tryz.f203=true:=by kernel_rfl
theorem aLG:bK Tryz.f204=true:=by kernel_rfl
theorem aLF:bK Tryz.f205=true:=by kernel_rfl
theorem aFD:bK Tryz.f206=true:=by kernel_rfl
theorem aLK:bK Tryz.f208=true:=by kernel_rfl
theorem aLk:bK Tryz.f209=true:=by kernel_rfl
theorem aMc:sV Tryz.f210=true:=by kernel_rfl
theorem aMe:sV Tryz.f211=true:=by kernel_rfl
theorem aMf:bK Tryz.f212=true:=by kernel_rfl
theorem aMg:sV Tryz.f213=true:=by kernel_rfl
theorem aMh:sV Tryz.f214=true:=by kernel_rfl
theorem aFm:bK Tryz.f215=true:=by kernel_rfl
theorem aL1:bK Tryz.f216=true:=by kernel_rfl
theorem aLb:bK Tryz.f217=true:=by kernel_rfl
theorem aK7:bK Tryz.f218=true:=by kernel_rfl
theorem aLE:bK Tryz.f219=true:=by kernel_rfl
theorem aLD:bK Tryz.f220=true:=by kernel_rfl
theorem aLB:bK Tryz.f221=true:=by kernel_rfl
theorem aKA:bK Tryz.f222=true:=by kernel_rfl
theorem aLt:bK Tryz.f223=true:=by kernel_rfl
theorem aLy:bK Tryz.f224=true:=by kernel_rfl
theorem aLI:bK Tryz.f225=true:=by kernel_rfl
theorem aLV:bK Tryz.f226=true:=by kernel_rfl
theorem aL9:bK Tryz.f227=true:=by kernel_rfl
theorem aLW:sV Tryz.f228=true:=by kernel_rfl
theorem aMa:bK Tryz.f229=true:=by kernel_rfl
theorem aMb:bK Tryz.f230=true:=by kernel_rfl
theorem aFs:sV Tryz.f231=true:=by kernel_rfl
theorem aL0:bK Tryz.f232=true:=by kernel_rfl
theorem aKR:bK Tryz.f233=true:=by kernel_rfl
theorem aLj:bK Tryz.f234=true:=by kernel_rfl
theorem aLm:sV Tryz.f235=true:=by kernel_rfl
theorem aKv:bK Tryz.f236=true:=by kernel_rfl
theorem aKz:bK Tryz.f237=true:=by kernel_rfl
theorem aKw:bK Tryz.f238=true:=by kernel_rfl
theorem aLi:bK Tryz.f239=true:=by kernel_rfl
theorem aLl:bK Tryz.f240=true:=by kernel_rfl
theorem aLr:bK Tryz.f241=true:=by kernel_rfl
theorem aLs:bK Tryz.f242=true:=by kernel_rfl
theorem aLo:bK Tryz.f243=true:=by kernel_rfl
theorem aFg:bK Tryz.f244=true:=by kernel_rfl
theorem aKk:bK Tryz.f245=true:=by kernel_rfl
theorem aL7:bK Tryz.f246=true:=by kernel_rfl
theorem aKu:bK Tryz.f247=true:=by kernel_rfl
theorem aLn:bK Tryz.f248=true:=by kernel_rfl
theorem aLw:bK Tryz.f249=true:=by kernel_rfl
theorem aLh:bK Tryz.f250=true:=by kernel_rfl
theorem aKC:bK Tryz.f251=true:=by kernel_rfl
theorem aLu:bK Tryz.f252=true:=by kernel_rfl
end Go.Ab.Tryz
