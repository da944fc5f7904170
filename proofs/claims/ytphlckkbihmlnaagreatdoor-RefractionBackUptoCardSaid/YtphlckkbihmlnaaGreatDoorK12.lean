/- A part of what the law's proof leans on. PACKED BY pack.py of this repo. -/
import Derived.Test.YtphlckkbihmlnaaGreatDoorK11
set_option linter.unusedVariables false
set_option linter.unusedSimpArgs false
set_option linter.unusedSectionVars false
set_option linter.defProp false
set_option maxRecDepth 100000
open Go.IntKind (i64 u64 u32)
section
namespace Go.Proofs.YtphlckkbihmlnaaGreatDoor.G
open Go Go.Proofs Go.RowKit RX
section
variable {R:Type} (EG:TF10 (TY5)) (EF:TF10 Bool) (GR:TF10 (Bool×ByteArray×Bool×ByteArray×Bool×ByteArray×Bool×ByteArray×Bool×ByteArray×Int)) (GM:TF10 Bool) (BX:Int→(TY5)) (BW:Int→Bool) (CL:TF10 (Int)) (CK:TF10 Bool) (EO:TF5 (Int)) (EN:TF5 Bool) (A2:Bool) (A3:ByteArray) (A8:Bool) (A7:ByteArray) (A6:Bool) (A9:ByteArray) (AB:Bool) (AA:ByteArray) (AD:Bool) (AC:ByteArray) (A5:Bool) (A4:ByteArray) (AF:Bool) (AE:ByteArray) (AH:Bool) (AG:ByteArray) (AO:Bool) (AN:ByteArray) (AM:Bool) (AL:ByteArray)
noncomputable def Bc.K (k:Int×Int×Int→Option R):Option R:=
 let t0:=EF A2 A3 A8 A7 A6 A9 AB AA AD AC A2 A3 A8 A7 A6 A9 AB AA AD AC
 bif t0 then
 let t1:=EG A2 A3 A8 A7 A6 A9 AB AA AD AC A2 A3 A8 A7 A6 A9 AB AA AD AC
 let t2:=GM t1.1 t1.2.1 t1.2.2.1 t1.2.2.2.1 t1.2.2.2.2.1 t1.2.2.2.2.2.1 t1.2.2.2.2.2.2.1 t1.2.2.2.2.2.2.2.1 t1.2.2.2.2.2.2.2.2.1 t1.2.2.2.2.2.2.2.2.2 A5 A4 AF AE AH AG AO AN AM AL
 bif t2 then
 let t3:=GR t1.1 t1.2.1 t1.2.2.1 t1.2.2.2.1 t1.2.2.2.2.1 t1.2.2.2.2.2.1 t1.2.2.2.2.2.2.1 t1.2.2.2.2.2.2.2.1 t1.2.2.2.2.2.2.2.2.1 t1.2.2.2.2.2.2.2.2.2 A5 A4 AF AE AH AG AO AN AM AL
 bif t3.2.2.2.2.2.2.2.2.2.2 !=0 then k (0,0,t3.2.2.2.2.2.2.2.2.2.2) else
 let t4:=BW 281474976710656
 bif t4 then
 let t5:=BX 281474976710656
 let t6:=EF t3.1 t3.2.1 t3.2.2.1 t3.2.2.2.1 t3.2.2.2.2.1 t3.2.2.2.2.2.1 t3.2.2.2.2.2.2.1 t3.2.2.2.2.2.2.2.1 t3.2.2.2.2.2.2.2.2.1 t3.2.2.2.2.2.2.2.2.2.1 t5.1 t5.2.1 t5.2.2.1 t5.2.2.2.1 t5.2.2.2.2.1 t5.2.2.2.2.2.1 t5.2.2.2.2.2.2.1 t5.2.2.2.2.2.2.2.1 t5.2.2.2.2.2.2.2.2.1 t5.2.2.2.2.2.2.2.2.2
 bif t6 then
 let t7:=EG t3.1 t3.2.1 t3.2.2.1 t3.2.2.2.1 t3.2.2.2.2.1 t3.2.2.2.2.2.1 t3.2.2.2.2.2.2.1 t3.2.2.2.2.2.2.2.1 t3.2.2.2.2.2.2.2.2.1 t3.2.2.2.2.2.2.2.2.2.1 t5.1 t5.2.1 t5.2.2.1 t5.2.2.2.1 t5.2.2.2.2.1 t5.2.2.2.2.2.1 t5.2.2.2.2.2.2.1 t5.2.2.2.2.2.2.2.1 t5.2.2.2.2.2.2.2.2.1 t5.2.2.2.2.2.2.2.2.2
 bif dqOk {fO:=BX,pO:=BW,fC:=CL,pC:=CK} {n0:=t7.1,s0:=t7.2.1,n1:=t7.2.2.1,s1:=t7.2.2.2.1,n2:=t7.2.2.2.2.1,s2:=t7.2.2.2.2.2.1,n3:=t7.2.2.2.2.2.2.1,s3:=t7.2.2.2.2.2.2.2.1,n4:=t7.2.2.2.2.2.2.2.2.1,s4:=t7.2.2.2.2.2.2.2.2.2} then
 let t8:=BW (i64.wrap (dqb (dqT {fO:=BX,pO:=BW,fC:=CL,pC:=CK} {n0:=t7.1,s0:=t7.2.1,n1:=t7.2.2.1,s1:=t7.2.2.2.1,n2:=t7.2.2.2.2.1,s2:=t7.2.2.2.2.2.1,n3:=t7.2.2.2.2.2.2.1,s3:=t7.2.2.2.2.2.2.2.1,n4:=t7.2.2.2.2.2.2.2.2.1,s4:=t7.2.2.2.2.2.2.2.2.2}) 32 0*dqb (dqT {fO:=BX,pO:=BW,fC:=CL,pC:=CK} {n0:=t7.1,s0:=t7.2.1,n1:=t7.2.2.1,s1:=t7.2.2.2.1,n2:=t7.2.2.2.2.1,s2:=t7.2.2.2.2.2.1,n3:=t7.2.2.2.2.2.2.1,s3:=t7.2.2.2.2.2.2.2.1,n4:=t7.2.2.2.2.2.2.2.2.1,s4:=t7.2.2.2.2.2.2.2.2.2}) 32 0))
 bif t8 then
 let t9:=BX (i64.wrap (dqb (dqT {fO:=BX,pO:=BW,fC:=CL,pC:=CK} {n0:=t7.1,s0:=t7.2.1,n1:=t7.2.2.1,s1:=t7.2.2.2.1,n2:=t7.2.2.2.2.1,s2:=t7.2.2.2.2.2.1,n3:=t7.2.2.2.2.2.2.1,s3:=t7.2.2.2.2.2.2.2.1,n4:=t7.2.2.2.2.2.2.2.2.1,s4:=t7.2.2.2.2.2.2.2.2.2}) 32 0*dqb (dqT {fO:=BX,pO:=BW,fC:=CL,pC:=CK} {n0:=t7.1,s0:=t7.2.1,n1:=t7.2.2.1,s1:=t7.2.2.2.1,n2:=t7.2.2.2.2.1,s2:=t7.2.2.2.2.2.1,n3:=t7.2.2.2.2.2.2.1,s3:=t7.2.2.2.2.2.2.2.1,n4:=t7.2.2.2.2.2.2.2.2.1,s4:=t7.2.2.2.2.2.2.2.2.2}) 32 0))
 let t10:=CK t9.1 t9.2.1 t9.2.2.1 t9.2.2.2.1 t9.2.2.2.2.1 t9.2.2.2.2.2.1 t9.2.2.2.2.2.2.1 t9.2.2.2.2.2.2.2.1 t9.2.2.2.2.2.2.2.2.1 t9.2.2.2.2.2.2.2.2.2 t7.1 t7.2.1 t7.2.2.1 t7.2.2.2.1 t7.2.2.2.2.1 t7.2.2.2.2.2.1 t7.2.2.2.2.2.2.1 t7.2.2.2.2.2.2.2.1 t7.2.2.2.2.2.2.2.2.1 t7.2.2.2.2.2.2.2.2.2
 bif t10 then
 let t11:=CL t9.1 t9.2.1 t9.2.2.1 t9.2.2.2.1 t9.2.2.2.2.1 t9.2.2.2.2.2.1 t9.2.2.2.2.2.2.1 t9.2.2.2.2.2.2.2.1 t9.2.2.2.2.2.2.2.2.1 t9.2.2.2.2.2.2.2.2.2 t7.1 t7.2.1 t7.2.2.1 t7.2.2.2.1 t7.2.2.2.2.1 t7.2.2.2.2.2.1 t7.2.2.2.2.2.2.1 t7.2.2.2.2.2.2.2.1 t7.2.2.2.2.2.2.2.2.1 t7.2.2.2.2.2.2.2.2.2
 bif decide (t11<0) then
 let t12:=EN A2 A3 A8 A7 A6 A9 AB AA AD AC
 bif t12 then
 let t13:=EO A2 A3 A8 A7 A6 A9 AB AA AD AC
 bif decide (t13<0) then bif decide (i64.wrap (0-i64.wrap (dqb (dqT {fO:=BX,pO:=BW,fC:=CL,pC:=CK} {n0:=t7.1,s0:=t7.2.1,n1:=t7.2.2.1,s1:=t7.2.2.2.1,n2:=t7.2.2.2.2.1,s2:=t7.2.2.2.2.2.1,n3:=t7.2.2.2.2.2.2.1,s3:=t7.2.2.2.2.2.2.2.1,n4:=t7.2.2.2.2.2.2.2.2.1,s4:=t7.2.2.2.2.2.2.2.2.2}) 32 0+1))≤i64.wrap (0-dqb (dqT {fO:=BX,pO:=BW,fC:=CL,pC:=CK} {n0:=t7.1,s0:=t7.2.1,n1:=t7.2.2.1,s1:=t7.2.2.2.1,n2:=t7.2.2.2.2.1,s2:=t7.2.2.2.2.2.1,n3:=t7.2.2.2.2.2.2.1,s3:=t7.2.2.2.2.2.2.2.1,n4:=t7.2.2.2.2.2.2.2.2.1,s4:=t7.2.2.2.2.2.2.2.2.2}) 32 0)) then bif decide (i64.wrap (0-i64.wrap (dqb (dqT {fO:=BX,pO:=BW,fC:=CL,pC:=CK} {n0:=t7.1,s0:=t7.2.1,n1:=t7.2.2.1,s1:=t7.2.2.2.1,n2:=t7.2.2.2.2.1,s2:=t7.2.2.2.2.2.1,n3:=t7.2.2.2.2.2.2.1,s3:=t7.2.2.2.2.2.2.2.1,n4:=t7.2.2.2.2.2.2.2.2.1,s4:=t7.2.2.2.2.2.2.2.2.2}) 32 0+1))≥ -1073741824) then bif !decide (i64.wrap (0-dqb (dqT {fO:=BX,pO:=BW,fC:=CL,pC:=CK} {n0:=t7.1,s0:=t7.2.1,n1:=t7.2.2.1,s1:=t7.2.2.2.1,n2:=t7.2.2.2.2.1,s2:=t7.2.2.2.2.2.1,n3:=t7.2.2.2.2.2.2.1,s3:=t7.2.2.2.2.2.2.2.1,n4:=t7.2.2.2.2.2.2.2.2.1,s4:=t7.2.2.2.2.2.2.2.2.2}) 32 0)≤1073741824) then k (0,0,3) else k (i64.wrap (0-i64.wrap (dqb (dqT {fO:=BX,pO:=BW,fC:=CL,pC:=CK} {n0:=t7.1,s0:=t7.2.1,n1:=t7.2.2.1,s1:=t7.2.2.2.1,n2:=t7.2.2.2.2.1,s2:=t7.2.2.2.2.2.1,n3:=t7.2.2.2.2.2.2.1,s3:=t7.2.2.2.2.2.2.2.1,n4:=t7.2.2.2.2.2.2.2.2.1,s4:=t7.2.2.2.2.2.2.2.2.2}) 32 0+1)),i64.wrap (0-dqb (dqT {fO:=BX,pO:=BW,fC:=CL,pC:=CK} {n0:=t7.1,s0:=t7.2.1,n1:=t7.2.2.1,s1:=t7.2.2.2.1,n2:=t7.2.2.2.2.1,s2:=t7.2.2.2.2.2.1,n3:=t7.2.2.2.2.2.2.1,s3:=t7.2.2.2.2.2.2.2.1,n4:=t7.2.2.2.2.2.2.2.2.1,s4:=t7.2.2.2.2.2.2.2.2.2}) 32 0),0) else k (0,0,3) else k (0,0,3) else bif decide (dqb (dqT {fO:=BX,pO:=BW,fC:=CL,pC:=CK} {n0:=t7.1,s0:=t7.2.1,n1:=t7.2.2.1,s1:=t7.2.2.2.1,n2:=t7.2.2.2.2.1,s2:=t7.2.2.2.2.2.1,n3:=t7.2.2.2.2.2.2.1,s3:=t7.2.2.2.2.2.2.2.1,n4:=t7.2.2.2.2.2.2.2.2.1,s4:=t7.2.2.2.2.2.2.2.2.2}) 32 0≤i64.wrap (dqb (dqT {fO:=BX,pO:=BW,fC:=CL,pC:=CK} {n0:=t7.1,s0:=t7.2.1,n1:=t7.2.2.1,s1:=t7.2.2.2.1,n2:=t7.2.2.2.2.1,s2:=t7.2.2.2.2.2.1,n3:=t7.2.2.2.2.2.2.1,s3:=t7.2.2.2.2.2.2.2.1,n4:=t7.2.2.2.2.2.2.2.2.1,s4:=t7.2.2.2.2.2.2.2.2.2}) 32 0+1)) then
 bif decide (dqb (dqT {fO:=BX,pO:=BW,fC:=CL,pC:=CK} {n0:=t7.1,s0:=t7.2.1,n1:=t7.2.2.1,s1:=t7.2.2.2.1,n2:=t7.2.2.2.2.1,s2:=t7.2.2.2.2.2.1,n3:=t7.2.2.2.2.2.2.1,s3:=t7.2.2.2.2.2.2.2.1,n4:=t7.2.2.2.2.2.2.2.2.1,s4:=t7.2.2.2.2.2.2.2.2.2}) 32 0≥ -1073741824) then bif !decide (i64.wrap (dqb (dqT {fO:=BX,pO:=BW,fC:=CL,pC:=CK} {n0:=t7.1,s0:=t7.2.1,n1:=t7.2.2.1,s1:=t7.2.2.2.1,n2:=t7.2.2.2.2.1,s2:=t7.2.2.2.2.2.1,n3:=t7.2.2.2.2.2.2.1,s3:=t7.2.2.2.2.2.2.2.1,n4:=t7.2.2.2.2.2.2.2.2.1,s4:=t7.2.2.2.2.2.2.2.2.2}) 32 0+1)≤1073741824) then k (0,0,3) else k (dqb (dqT {fO:=BX,pO:=BW,fC:=CL,pC:=CK} {n0:=t7.1,s0:=t7.2.1,n1:=t7.2.2.1,s1:=t7.2.2.2.1,n2:=t7.2.2.2.2.1,s2:=t7.2.2.2.2.2.1,n3:=t7.2.2.2.2.2.2.1,s3:=t7.2.2.2.2.2.2.2.1,n4:=t7.2.2.2.2.2.2.2.2.1,s4:=t7.2.2.2.2.2.2.2.2.2}) 32 0,i64.wrap (dqb (dqT {fO:=BX,pO:=BW,fC:=CL,pC:=CK} {n0:=t7.1,s0:=t7.2.1,n1:=t7.2.2.1,s1:=t7.2.2.2.1,n2:=t7.2.2.2.2.1,s2:=t7.2.2.2.2.2.1,n3:=t7.2.2.2.2.2.2.1,s3:=t7.2.2.2.2.2.2.2.1,n4:=t7.2.2.2.2.2.2.2.2.1,s4:=t7.2.2.2.2.2.2.2.2.2}) 32 0+1),0) else k (0,0,3) else k (0,0,3) else none else
 let t14:=EN A2 A3 A8 A7 A6 A9 AB AA AD AC
 bif t14 then
 let t15:=EO A2 A3 A8 A7 A6 A9 AB AA AD AC
 bif decide (t15<0) then bif decide (i64.wrap (0-dqb (dqT {fO:=BX,pO:=BW,fC:=CL,pC:=CK} {n0:=t7.1,s0:=t7.2.1,n1:=t7.2.2.1,s1:=t7.2.2.2.1,n2:=t7.2.2.2.2.1,s2:=t7.2.2.2.2.2.1,n3:=t7.2.2.2.2.2.2.1,s3:=t7.2.2.2.2.2.2.2.1,n4:=t7.2.2.2.2.2.2.2.2.1,s4:=t7.2.2.2.2.2.2.2.2.2}) 32 0)≤i64.wrap (0-dqb (dqT {fO:=BX,pO:=BW,fC:=CL,pC:=CK} {n0:=t7.1,s0:=t7.2.1,n1:=t7.2.2.1,s1:=t7.2.2.2.1,n2:=t7.2.2.2.2.1,s2:=t7.2.2.2.2.2.1,n3:=t7.2.2.2.2.2.2.1,s3:=t7.2.2.2.2.2.2.2.1,n4:=t7.2.2.2.2.2.2.2.2.1,s4:=t7.2.2.2.2.2.2.2.2.2}) 32 0)) then bif decide (i64.wrap (0-dqb (dqT {fO:=BX,pO:=BW,fC:=CL,pC:=CK} {n0:=t7.1,s0:=t7.2.1,n1:=t7.2.2.1,s1:=t7.2.2.2.1,n2:=t7.2.2.2.2.1,s2:=t7.2.2.2.2.2.1,n3:=t7.2.2.2.2.2.2.1,s3:=t7.2.2.2.2.2.2.2.1,n4:=t7.2.2.2.2.2.2.2.2.1,s4:=t7.2.2.2.2.2.2.2.2.2}) 32 0)≥ -1073741824) then bif !decide (i64.wrap (0-dqb (dqT {fO:=BX,pO:=BW,fC:=CL,pC:=CK} {n0:=t7.1,s0:=t7.2.1,n1:=t7.2.2.1,s1:=t7.2.2.2.1,n2:=t7.2.2.2.2.1,s2:=t7.2.2.2.2.2.1,n3:=t7.2.2.2.2.2.2.1,s3:=t7.2.2.2.2.2.2.2.1,n4:=t7.2.2.2.2.2.2.2.2.1,s4:=t7.2.2.2.2.2.2.2.2.2}) 32 0)≤1073741824) then k (0,0,3) else k (i64.wrap (0-dqb (dqT {fO:=BX,pO:=BW,fC:=CL,pC:=CK} {n0:=t7.1,s0:=t7.2.1,n1:=t7.2.2.1,s1:=t7.2.2.2.1,n2:=t7.2.2.2.2.1,s2:=t7.2.2.2.2.2.1,n3:=t7.2.2.2.2.2.2.1,s3:=t7.2.2.2.2.2.2.2.1,n4:=t7.2.2.2.2.2.2.2.2.1,s4:=t7.2.2.2.2.2.2.2.2.2}) 32 0),i64.wrap (0-dqb (dqT {fO:=BX,pO:=BW,fC:=CL,pC:=CK} {n0:=t7.1,s0:=t7.2.1,n1:=t7.2.2.1,s1:=t7.2.2.2.1,n2:=t7.2.2.2.2.1,s2:=t7.2.2.2.2.2.1,n3:=t7.2.2.2.2.2.2.1,s3:=t7.2.2.2.2.2.2.2.1,n4:=t7.2.2.2.2.2.2.2.2.1,s4:=t7.2.2.2.2.2.2.2.2.2}) 32 0),0) else k (0,0,3) else k (0,0,3) else bif decide (dqb (dqT {fO:=BX,pO:=BW,fC:=CL,pC:=CK} {n0:=t7.1,s0:=t7.2.1,n1:=t7.2.2.1,s1:=t7.2.2.2.1,n2:=t7.2.2.2.2.1,s2:=t7.2.2.2.2.2.1,n3:=t7.2.2.2.2.2.2.1,s3:=t7.2.2.2.2.2.2.2.1,n4:=t7.2.2.2.2.2.2.2.2.1,s4:=t7.2.2.2.2.2.2.2.2.2}) 32 0≤dqb (dqT {fO:=BX,pO:=BW,fC:=CL,pC:=CK} {n0:=t7.1,s0:=t7.2.1,n1:=t7.2.2.1,s1:=t7.2.2.2.1,n2:=t7.2.2.2.2.1,s2:=t7.2.2.2.2.2.1,n3:=t7.2.2.2.2.2.2.1,s3:=t7.2.2.2.2.2.2.2.1,n4:=t7.2.2.2.2.2.2.2.2.1,s4:=t7.2.2.2.2.2.2.2.2.2}) 32 0) then
 bif decide (dqb (dqT {fO:=BX,pO:=BW,fC:=CL,pC:=CK} {n0:=t7.1,s0:=t7.2.1,n1:=t7.2.2.1,s1:=t7.2.2.2.1,n2:=t7.2.2.2.2.1,s2:=t7.2.2.2.2.2.1,n3:=t7.2.2.2.2.2.2.1,s3:=t7.2.2.2.2.2.2.2.1,n4:=t7.2.2.2.2.2.2.2.2.1,s4:=t7.2.2.2.2.2.2.2.2.2}) 32 0≥ -1073741824) then bif !decide (dqb (dqT {fO:=BX,pO:=BW,fC:=CL,pC:=CK} {n0:=t7.1,s0:=t7.2.1,n1:=t7.2.2.1,s1:=t7.2.2.2.1,n2:=t7.2.2.2.2.1,s2:=t7.2.2.2.2.2.1,n3:=t7.2.2.2.2.2.2.1,s3:=t7.2.2.2.2.2.2.2.1,n4:=t7.2.2.2.2.2.2.2.2.1,s4:=t7.2.2.2.2.2.2.2.2.2}) 32 0≤1073741824) then k (0,0,3) else k (dqb (dqT {fO:=BX,pO:=BW,fC:=CL,pC:=CK} {n0:=t7.1,s0:=t7.2.1,n1:=t7.2.2.1,s1:=t7.2.2.2.1,n2:=t7.2.2.2.2.1,s2:=t7.2.2.2.2.2.1,n3:=t7.2.2.2.2.2.2.1,s3:=t7.2.2.2.2.2.2.2.1,n4:=t7.2.2.2.2.2.2.2.2.1,s4:=t7.2.2.2.2.2.2.2.2.2}) 32 0,dqb (dqT {fO:=BX,pO:=BW,fC:=CL,pC:=CK} {n0:=t7.1,s0:=t7.2.1,n1:=t7.2.2.1,s1:=t7.2.2.2.1,n2:=t7.2.2.2.2.1,s2:=t7.2.2.2.2.2.1,n3:=t7.2.2.2.2.2.2.1,s3:=t7.2.2.2.2.2.2.2.1,n4:=t7.2.2.2.2.2.2.2.2.1,s4:=t7.2.2.2.2.2.2.2.2.2}) 32 0,0) else k (0,0,3) else k (0,0,3) else none else none else none else none else none else none else none else none
theorem Bc.run:xfn Tryz.prog ⟨[(69,Cy.sp EG EF),(72,Dq.sp GR GM),(73,Ce.sp BX BW),(74,Dc.sp CL CK),(75,Cj.sp EO EN)],[(21,Tryz.f21)],[]⟩ [(0,dq.t ⟨BX,BW,CL,CK⟩)] 60 Tryz.f31 [.agg ⟨[.bool A2,.string A3,.bool A8,.string A7,.bool A6,.string A9,.bool AB,.string AA,.bool AD,.string AC]⟩,.agg ⟨[.bool A5,.string A4,.bool AF,.string AE,.bool AH,.string AG,.bool AO,.string AN,.bool AM,.string AL]⟩] []=Bc.K EG EF GR GM BX BW CL CK EO EN A2 A3 A8 A7 A6 A9 AB AA AD AC A5 A4 AF AE AH AG AO AN AM AL (fun r=>some (.tuple ⟨[.agg ⟨[.int .i64 r.1,.int .i64 r.2.1]⟩,.int .i64 r.2.2]⟩,[])):=by kernel_rfl
noncomputable def Bc.o:Option (Int×Int×Int):=Bc.K Cy Cy.pre Dq Dq.pre Ce Ce.pre Dc Dc.pre Cj Cj.pre A2 A3 A8 A7 A6 A9 AB AA AD AC A5 A4 AF AE AH AG AO AN AM AL some
noncomputable def Bc.pre:Bool:=(Bc.o A2 A3 A8 A7 A6 A9 AB AA AD AC A5 A4 AF AE AH AG AO AN AM AL).isSome
noncomputable def Bc:Int×Int×Int:=(Bc.o A2 A3 A8 A7 A6 A9 AB AA AD AC A5 A4 AF AE AH AG AO AN AM AL).getD default
theorem Bc.nat (k:Int×Int×Int→Option R):Bc.K EG EF GR GM BX BW CL CK EO EN A2 A3 A8 A7 A6 A9 AB AA AD AC A5 A4 AF AE AH AG AO AN AM AL k=(Bc.K EG EF GR GM BX BW CL CK EO EN A2 A3 A8 A7 A6 A9 AB AA AD AC A5 A4 AF AE AH AG AO AN AM AL some).bind k:=by
 simp only [Bc.K,bcond,Option.bind_some,Option.bind_none]
end
def qcmp (x y:Q):Int:=bif x.ok&&y.ok then (qsub x y).sg else 0
def qmulv (x y:Q):Q:=bif x.ok&&y.ok then qmul x y else Q.zero
def dlh (n:Int) (c s:Bool):Int×Int:=bif c then (bif s then (-(n+1),-n) else (n,n+1)) else (bif s then (-n,-n) else (n,n))
def dchk (r:Int×Int):Int×Int×Int:=bif decide (-1073741824≤r.1)&&decide (r.2≤1073741824) then (r.1,r.2,0) else (0,0,3)
def droot (q:Q):Int:=dqb (fun m=>decide (qcmp (qof (m*m)) q≤0)) 32 0
def dquot (x y:Q):Int×Int×Int:=
 bif (qDiv (qmulv x x) y).2 !=0 then (0,0,(qDiv (qmulv x x) y).2) else
 dchk (dlh (droot (qmulv (qDiv (qmulv x x) y).1 (qof 281474976710656))) (decide (qcmp (qof (droot (qmulv (qDiv (qmulv x x) y).1 (qof 281474976710656))*droot (qmulv (qDiv (qmulv x x) y).1 (qof 281474976710656)))) (qmulv (qDiv (qmulv x x) y).1 (qof 281474976710656))<0)) (decide ((bif x.ok then x.sg else 0)<0)))
theorem KB {T U:Int→Bool} (h:∀m,0≤m→m<2147483648→T m=U m):∀(k:Nat) (n:Int),0≤n→dqb T k n=dqb U k n
 |0,n,_=>rfl
 | k +1,n,h0=>by
  unfold dqb
  have hb:0≤bq (k+1):=by rw [LJ]; exact Int.natCast_nonneg _
  by_cases hm:n+bq (k+1)<2147483648
  ·rw [decide_eq_true hm,cond_true,cond_true,h _ (by omega) hm]
   cases U (n+bq (k+1)) with
   |true=>exact KB h k (n+bq (k+1)) (by omega)
   |false=>exact KB h k n h0
  ·rw [decide_eq_false hm,cond_false,cond_false]
   exact KB h k _ h0
theorem KA {T:Int→Bool} :∀(k:Nat) (n:Int),0≤n→n<2147483648→0≤dqb T k n∧dqb T k n<2147483648
 |0,n,h0,h1=>⟨h0,h1⟩
 | k +1,n,h0,h1=>by
  unfold dqb
  have hb:0≤bq (k+1):=by rw [LJ]; exact Int.natCast_nonneg _
  by_cases hm:n+bq (k+1)<2147483648
  ·rw [decide_eq_true hm,cond_true]
   cases T (n+bq (k+1)) with
   |true=>exact KA k (n+bq (k+1)) (by omega) hm
   |false=>exact KA k n h0 h1
  ·rw [decide_eq_false hm,cond_false]
   exact KA k _ h0 h1
theorem P9 {j k:Nat} {x y:Q} (hx:x.Bd j) (hy:y.Bd k):(qmulv x y).Bd (j+k+5):=by
 unfold qmulv
 cases ox:x.ok with
 |false=>exact II _
 | true=>
  cases oy:y.ok with
  |false=>exact II _
  |true=>exact H0 hx hy ox oy
theorem qdiv_bd {j k:Nat} {x y:Q} (hx:x.Bd j) (hy:y.Bd k) (ox:x.ok=true) (oy:y.ok=true) (hnz:¬(y.c0=0∧y.c1=0∧y.c2=0∧y.c3=0)):(qdiv x y).Bd (j+7*k+35):=by
 have oa:(cj2 y).ok=true:=by rw [Lu,oy]
 have ba:=TX hy
 have ot:=Ie oy
 have bt:(qtwo y).Bd (2*k+5):=(H0 hy ba oy oa).mono (by omega)
 have ob:(cj1 (qtwo y)).ok=true:=by rw [Ke,ot]
 have bb:=TY bt
 have on:=OC oy
 have bn:(qone y).Bd (4*k+15):=(H0 bt bb ot ob).mono (by omega)
 have oi:=MH oy hnz
 have bi0:(Q.mk (qone y).d 0 0 0 (qone y).c0).Bd (4*k+15):=⟨bn.d,Bd.zero _,Bd.zero _,Bd.zero _,bn.c0⟩
 have bi:(qinv y).Bd (4*k+15):=OM bi0 (JE oy hnz)
 have b3:(qmul x (cj2 y)).Bd (j+k+5):=H0 hx ba ox oa
 have b4:(qmul (cj1 (qtwo y)) (qinv y)).Bd (6*k+25):=(H0 bb bi ob oi).mono (by omega)
 exact (H0 b3 b4 (Fy ox oa) (Fy ob oi)).mono (by omega)
theorem R5 {y:Q} (h:y.nul=false):¬(y.c0=0∧y.c1=0∧y.c2=0∧y.c3=0):=by
 rintro ⟨h0,h1,h2,h3⟩
 simp [Q.nul,h0,h1,h2,h3] at h
theorem qDiv_bd {j k:Nat} {x y:Q} (hx:x.Bd j) (hy:y.Bd k):(qDiv x y).1.Bd (j+7*k+35):=by
 unfold qDiv
 cases ox:x.ok with
 |false=>exact II _
 | true=>
  cases oy:y.ok with
  |false=>exact II _
  | true=>
   cases on:y.nul with
   |true=>exact II _
   |false=>exact qdiv_bd hx hy ox oy (R5 on)
theorem Sf {k:Nat} {n:Int} (h:Bd k n) (hk:1≤k):(qof n).Bd k:=⟨h,Bd.zero _,Bd.zero _,Bd.zero _,Bd.one hk⟩
theorem sq_bd {m:Int} (h:0≤m) (h':m<2147483648):Bd 8 (m*m):=by
 have e:(m.natAbs:Int)=m:=by omega
 have:Bd 4 m:=by
  unfold Bd
  rw [e]
  have:p8 4=4294967296:=by decide
  omega
 exact (this.mul this).mono (by omega)
theorem Bc.os {j k:Nat} {x y:Q} (hx:x.Bd j) (hy:y.Bd k) (hk:1≤k) (h:4*j+14*k+200≤PRM):Bc.o (dI x.c0).1 (dI x.c0).2 (dI x.c1).1 (dI x.c1).2 (dI x.c2).1 (dI x.c2).2 (dI x.c3).1 (dI x.c3).2 (dI x.d).1 (dI x.d).2 (dI y.c0).1 (dI y.c0).2 (dI y.c1).1 (dI y.c1).2 (dI y.c2).1 (dI y.c2).2 (dI y.c3).1 (dI y.c3).2 (dI y.d).1 (dI y.d).2=some (dquot x y):=by
 have m1:=Cy.ps hx hx (by omega) (by omega)
 have m1':=Cy.es hx hx (by omega) (by omega)
 change _=C5 (qmulv x x) at m1'
 have b1:=P9 hx hx
 have d1:=Dq.ps b1 hy hk (by omega)
 have d1':=Dq.es b1 hy hk (by omega)
 have b2:=qDiv_bd b1 hy
 have o1:=Ce.ps (n:=281474976710656) (by decide) (by decide)
 have o1':=Ce.es (n:=281474976710656) (by decide) (by decide)
 change _=C5 (qof 281474976710656) at o1'
 have b3:(qof 281474976710656).Bd 7:=Sf (by unfold Bd; decide) (by omega)
 have m2:=Cy.ps b2 b3 (by omega) (by unfold PRM; omega)
 have m2':=Cy.es b2 b3 (by omega) (by unfold PRM; omega)
 change _=C5 (qmulv (qDiv (qmulv x x) y).1 (qof 281474976710656)) at m2'
 have b4:=P9 b2 b3
 simp only [Bc.o,Bc.K,m1,m1',C5,d1,d1',C51,dquot,o1,o1',m2,m2',cond_true]
 generalize hq:qmulv (qDiv (qmulv x x) y).1 (qof 281474976710656)=q at*
 cases (qDiv (qmulv x x) y).2 !=0 with
 |true=>simp only [cond_true]
 |false=>
 have cm:∀m:Int,0≤m→m<2147483648→Ce.pre (m*m)=true∧Ce (m*m)=C5 (qof (m*m))∧(qof (m*m)).Bd 8:=fun m h0 h1=>by
  have hs:m*m≤2147483647*2147483647:=Int.mul_le_mul (by omega) (by omega) h0 (by omega)
  have h2:0≤m*m:=Int.mul_nonneg h0 h0
  exact ⟨Ce.ps (by omega) (by omega),Ce.es (by omega) (by omega),Sf (sq_bd h0 h1) (by omega)⟩
 have hok:DqOk ⟨Ce,Ce.pre,Dc,Dc.pre⟩ ⟨(dI q.c0).1,(dI q.c0).2,(dI q.c1).1,(dI q.c1).2,(dI q.c2).1,(dI q.c2).2,(dI q.c3).1,(dI q.c3).2,(dI q.d).1,(dI q.d).2⟩:=fun m h0 h1=>by
  obtain ⟨e1,e2,e3⟩:=cm m h0 h1
  refine ⟨e1,?_⟩
  simp only [dqp,e2,C5]
  exact Dc.ps e3 b4 (by omega)
 have hT:∀m:Int,0≤m→m<2147483648→dqT ⟨Ce,Ce.pre,Dc,Dc.pre⟩ ⟨(dI q.c0).1,(dI q.c0).2,(dI q.c1).1,(dI q.c1).2,(dI q.c2).1,(dI q.c2).2,(dI q.c3).1,(dI q.c3).2,(dI q.d).1,(dI q.d).2⟩ m=decide (qcmp (qof (m*m)) q≤0):=fun m h0 h1=>by
  obtain ⟨e1,e2,e3⟩:=cm m h0 h1
  simp only [dqT,dqc,e2,C5]
  rw [Dc.es e3 b4 (by omega)]
  rfl
 have hr:dqb (dqT ⟨Ce,Ce.pre,Dc,Dc.pre⟩ ⟨(dI q.c0).1,(dI q.c0).2,(dI q.c1).1,(dI q.c1).2,(dI q.c2).1,(dI q.c2).2,(dI q.c3).1,(dI q.c3).2,(dI q.d).1,(dI q.d).2⟩) 32 0=droot q:=KB hT 32 0 (by omega)
 have g:=KA (T:=fun m=>decide (qcmp (qof (m*m)) q≤0)) 32 0 (by omega) (by omega)
 change 0≤droot q∧droot q<2147483648 at g
 obtain ⟨e1,e2,e3⟩:=cm (droot q) g.1 g.2
 have c1:=Dc.ps e3 b4 (by omega)
 have c1':=Dc.es e3 b4 (by omega)
 change _=qcmp (qof (droot q*droot q)) q at c1'
 have s1:=Cj.ps hx (by omega)
 have s1':=Cj.es hx (by omega)
 simp only [C5] at e2
 simp only [Pc.2 hok,hr,cond_true,cond_false,Qd g.1 g.2,e1,e2,c1,c1',s1,s1']
 generalize droot q=n at*
 have w1:i64.wrap (n+1)=n+1:=w64 (by omega) (by omega)
 have w2:i64.wrap (0-(n+1))= -(n+1):=by rw [w64 (by omega) (by omega)]; omega
 have w3:i64.wrap (0-n)= -n:=by rw [w64 (by omega) (by omega)]; omega
 simp only [w1,w2,w3]
 cases decide (qcmp (qof (n*n)) q<0)<;>cases decide ((bif x.ok then x.sg else 0)<0)<;>simp only [dlh,dchk,cond_true,cond_false]
 ·by_cases hc:n≤1073741824
  ·simp only [hc,show n≤n from Int.le_refl n,show n≥ -1073741824 by omega,show -1073741824≤n by omega,decide_true,zN,cond_true,cond_false,Bool.and_self]
  ·simp only [hc,show n≤n from Int.le_refl n,show n≥ -1073741824 by omega,show -1073741824≤n by omega,decide_true,decide_false,Bool.not_false,cond_true,cond_false,Bool.and_false]
 ·by_cases hc: -n≥ -1073741824
  ·simp only [hc,show -n≤ -n from Int.le_refl _,show -n≤1073741824 by omega,show -1073741824≤ -n by omega,decide_true,zN,cond_true,cond_false,Bool.and_self]
  ·simp only [hc,show -n≤ -n from Int.le_refl _,show ¬ -1073741824≤ -n by omega,decide_true,decide_false,cond_true,cond_false,Bool.false_and]
 ·by_cases hc:n+1≤1073741824
  ·simp only [hc,show n≤n+1 by omega,show n≥ -1073741824 by omega,show -1073741824≤n by omega,decide_true,zN,cond_true,cond_false,Bool.and_self]
  ·simp only [hc,show n≤n+1 by omega,show n≥ -1073741824 by omega,show -1073741824≤n by omega,decide_true,decide_false,Bool.not_false,cond_true,cond_false,Bool.and_false]
 ·by_cases hc: -(n+1)≥ -1073741824
  ·simp only [hc,show -(n+1)≤ -n by omega,show -n≤1073741824 by omega,show -1073741824≤ -(n+1) by omega,decide_true,zN,cond_true,cond_false,Bool.and_self]
  ·simp only [hc,show -(n+1)≤ -n by omega,show ¬ -1073741824≤ -(n+1) by omega,decide_true,decide_false,cond_true,cond_false,Bool.false_and]
theorem Bc.ps {j k:Nat} {x y:Q} (hx:x.Bd j) (hy:y.Bd k) (hk:1≤k) (h:4*j+14*k+200≤PRM):Bc.pre (dI x.c0).1 (dI x.c0).2 (dI x.c1).1 (dI x.c1).2 (dI x.c2).1 (dI x.c2).2 (dI x.c3).1 (dI x.c3).2 (dI x.d).1 (dI x.d).2 (dI y.c0).1 (dI y.c0).2 (dI y.c1).1 (dI y.c1).2 (dI y.c2).1 (dI y.c2).2 (dI y.c3).1 (dI y.c3).2 (dI y.d).1 (dI y.d).2=true:=Fk (Bc.os hx hy hk h)
theorem Bc.es {j k:Nat} {x y:Q} (hx:x.Bd j) (hy:y.Bd k) (hk:1≤k) (h:4*j+14*k+200≤PRM):Bc (dI x.c0).1 (dI x.c0).2 (dI x.c1).1 (dI x.c1).2 (dI x.c2).1 (dI x.c2).2 (dI x.c3).1 (dI x.c3).2 (dI x.d).1 (dI x.d).2 (dI y.c0).1 (dI y.c0).2 (dI y.c1).1 (dI y.c1).2 (dI y.c2).1 (dI y.c2).2 (dI y.c3).1 (dI y.c3).2 (dI y.d).1 (dI y.d).2=dquot x y:=GT (Bc.os hx hy hk h)
theorem Bc.ok:SOK Tryz.prog 31 (Bc.sp Bc Bc.pre):=by
 refine Cu (E:=⟨[(69,Cy.sp Cy Cy.pre),(72,Dq.sp Dq Dq.pre),(73,Ce.sp Ce Ce.pre),(74,Dc.sp Dc Dc.pre),(75,Cj.sp Cj Cj.pre)],[(21,Tryz.f21)],[]⟩) (L:=[(0,dq.t ⟨Ce,Ce.pre,Dc,Dc.pre⟩)]) ⟨(Aa Cy.ok (Aa Dq.ok (Aa Ce.ok (Aa Dc.ok (Aa Cj.ok Ac))))),(Fl ⟨Tryz.func21,by decide,rfl⟩ Ai),Ad,Ah⟩ 60 Tryz.func31 (by decide) rfl (Ga rfl rfl (dq.lok _ ⟨Aa Ce.ok (Aa Dc.ok Ac),Ai,Ad,Ah⟩)) fun vs bl v bl' h=> ?_
 unfold Bc.sp at h
 split at h
 ·rename_i A2 A3 A8 A7 A6 A9 AB AA AD AC A5 A4 AF AE AH AG AO AN AM AL
  simp only [zS,zP] at h
  obtain ⟨hp,rfl,rfl⟩:=h
  have hr:=Bc.run Cy Cy.pre Dq Dq.pre Ce Ce.pre Dc Dc.pre Cj Cj.pre A2 A3 A8 A7 A6 A9 AB AA AD AC A5 A4 AF AE AH AG AO AN AM AL
  rw [Bc.nat] at hr
  obtain ⟨r,h2⟩:=Option.isSome_iff_exists.1 (hp:(Bc.o A2 A3 A8 A7 A6 A9 AB AA AD AC A5 A4 AF AE AH AG AO AN AM AL).isSome=true)
  have h3:Bc A2 A3 A8 A7 A6 A9 AB AA AD AC A5 A4 AF AE AH AG AO AN AM AL=r:=by unfold Bc; rw [h2]; rfl
  have h4:Bc.K Cy Cy.pre Dq Dq.pre Ce Ce.pre Dc Dc.pre Cj Cj.pre A2 A3 A8 A7 A6 A9 AB AA AD AC A5 A4 AF AE AH AG AO AN AM AL some=some r:=h2
  rw [h4,Option.bind_some] at hr
  rw [h3]
  exact ⟨hr,by simp [okV,Nat.blt],clo_spec 8 _ (by kernel_rfl),Ay (by kernel_rfl)⟩
 ·cases h
end Go.Proofs.YtphlckkbihmlnaaGreatDoor.G
end
section
namespace Go.Proofs.YtphlckkbihmlnaaGreatDoor.G
open Go
def cw (k:Int) (A B:Z6):Int:=Sg.s (zi k*A+ -B)
abbrev KK:Int:=281474976710656
theorem PA {q:Q} {A B:Z6} (h:Rep q B A) (ok:q.ok=true) (hA:Sg.s A=1) (k:Int):qcmp (qof k) q=cw k A B:=by
 have r:=(Rep.of k).sub h (LX k) ok
 have o:(qsub (qof k) q).ok=true:=JF (LX k) (by rw [Kr,ok])
 have e:=r.sg o
 rw [sgM,s_zi,hA,Sk] at e
 unfold qcmp
 rw [LX,ok]
 show (qsub (qof k) q).sg=_
 rw [e]
 show _*(1*1)=_
 rw [Int.mul_one,Int.mul_one]; rfl
theorem quo_rep {x y:Q} {X D σ τ:Z6} (hx:Rep x X D) (hy:Rep y σ τ) (ox:x.ok=true) (oy:y.ok=true) (hσ:Sg.s σ≠0) (k:Int):
  Rep (qmulv (qDiv (qmulv x x) y).1 (qof k)) (X*X*τ*zi k) (D*D*σ)∧(qmulv (qDiv (qmulv x x) y).1 (qof k)).ok=true∧(qDiv (qmulv x x) y).2=0:=by
 have om:=Fy ox ox
 have e1:qmulv x x=qmul x x:=by unfold qmulv; rw [ox]; rfl
 have hn:y.nul=false:=by
  cases h:y.nul with
  |false=>rfl
  | true=>
   have e:=hy.sg oy
   rw [R6 oy h] at e
   have:(qof 0).sg=0:=rfl
   rw [this] at e
   exact absurd e.symm (Int.mul_ne_zero hσ hy.nz)
 have e2:qDiv (qmul x x) y=(qdiv (qmul x x) y,0):=by unfold qDiv; rw [om,oy,hn]; rfl
 have od:=qdiv_ok om oy (R5 hn)
 have e3:qmulv (qdiv (qmul x x) y) (qof k)=qmul (qdiv (qmul x x) y) (qof k):=by unfold qmulv; rw [od,LX]; rfl
 rw [e1,e2]
 refine ⟨?_,?_,rfl⟩
 ·show Rep (qmulv (qdiv (qmul x x) y) (qof k)) _ _
  rw [e3]
  refine (((hx.mul hx ox ox).div hy om oy hσ).mul (Rep.of k) od (LX k)).conv (J1 (J1 hx.nz hx.nz) hσ) ?_
  rw [Sk]
 ·show (qmulv (qdiv (qmul x x) y) (qof k)).ok=true
  rw [e3]; exact Fy od (LX k)
def dr (A B:Z6):Int:=dqb (fun m=>decide (cw (m*m) A B≤0)) 32 0
theorem Rx {x y:Q} {X D σ τ:Z6} (hx:Rep x X D) (hy:Rep y σ τ) (ox:x.ok=true) (oy:y.ok=true) (hσ:Sg.s σ=1):
  dquot x y=dchk (dlh (dr (D*D*σ) (X*X*τ*zi KK)) (decide (cw (dr (D*D*σ) (X*X*τ*zi KK)*dr (D*D*σ) (X*X*τ*zi KK)) (D*D*σ) (X*X*τ*zi KK)<0)) (decide (x.sg<0))):=by
 obtain ⟨h1,h2,h3⟩:=quo_rep hx hy ox oy (by rw [hσ]; decide) KK
 have hA:Sg.s (D*D*σ)=1:=by rw [sgM,hσ,s_sq hx.nz]; rfl
 have hd:droot (qmulv (qDiv (qmulv x x) y).1 (qof KK))=dr (D*D*σ) (X*X*τ*zi KK):=by
  unfold droot dr
  congr 1
  funext m
  rw [PA h1 h2 hA]
 unfold dquot
 rw [h3,hd,PA h1 h2 hA,ox]
 simp only [bne_self_eq_false,cond_false,cond_true]
theorem TV {A B:Z6} (hA:Sg.s A=1) {j k:Int} (h:j<k) (h0:0≤cw j A B):cw k A B=1:=by
 have e:zi k*A+ -B=(zi j*A+ -B)+zi (k-j)*A:=by
  have:k=j+(k-j):=by omega
  rw [show zi k=zi j+zi (k-j) by rw [←KL,←this],Z6.add_mul]
  ac_rfl
 unfold cw
 rw [e]
 have h2:Sg.s (zi (k-j)*A)=1:=by rw [sgM,hA,s_zi,Kl.2 (by omega)]; rfl
 exact Hr h0 (by omega) (.inr h2)
theorem LF {T:Int→Bool} (hm:∀a b:Int,0≤a→a≤b→T b=true→T a=true):∀(k:Nat) (n:Int),0≤n→n<2147483648→T n=true→n≤dqb T k n∧dqb T k n<2147483648∧T (dqb T k n)=true∧∀m,dqb T k n<m→m<n+((2^k:Nat):Int)→m<2147483648→T m=false
 |0,n,h0,h1,ht=>⟨Int.le_refl _,h1,ht,fun m h2 h3 _=>by simp only [dqb,Nat.pow_zero] at h2 h3; omega⟩
 | k + 1,n,h0,h1,ht=>by
  unfold dqb
  have e:((2^(k+1):Nat):Int)=((2^k:Nat):Int)+((2^k:Nat):Int):=by rw [Nat.pow_succ]; omega
  have hp:0<((2^k:Nat):Int):=by have:=Nat.two_pow_pos k; omega
  rw [LJ,e]
  generalize hb:((2^k:Nat):Int)=b at*
  by_cases hc:n+b<2147483648
  ·rw [decide_eq_true hc,cond_true]
   cases hT:T (n+b) with
   | true=>
    obtain ⟨g1,g2,g3,g4⟩:=LF hm k (n+b) (by omega) hc hT
    rw [hb] at g4
    exact ⟨by rw [cond_true]; omega,g2,g3,fun m h2 h3 h4=>g4 m h2 (by omega) h4⟩
   | false=>
    obtain ⟨g1,g2,g3,g4⟩:=LF hm k n h0 h1 ht
    rw [hb] at g4
    refine ⟨g1,g2,g3,fun m h2 h3 h4=> ?_⟩
    cases hT':T m with
    |false=>rfl
    | true=>
     by_cases hbm:n+b≤m
     ·rw [hm _ m (by omega) hbm hT'] at hT; cases hT
     ·rw [←hT']; exact g4 m h2 (by omega) h4
  ·rw [decide_eq_false hc,cond_false]
   obtain ⟨g1,g2,g3,g4⟩:=LF hm k n h0 h1 ht
   rw [hb] at g4
   exact ⟨g1,g2,g3,fun m h2 h3 h4=>g4 m h2 (by omega) h4⟩
theorem cw_mono {A B:Z6} (hA:Sg.s A=1) {j k:Int} (h:j≤k) (h0:cw k A B≤0):cw j A B≤0:=by
 rcases Int.lt_or_eq_of_le h with h1|rfl
 ·by_cases hj:0≤cw j A B
  ·have:=TV hA h1 hj; omega
  ·omega
 ·exact h0
theorem dr_spec {A B:Z6} (hA:Sg.s A=1) (hB:0≤Sg.s B):0≤dr A B∧dr A B<2147483648∧cw (dr A B*dr A B) A B≤0∧∀m,dr A B<m→m<2147483648→cw (m*m) A B=1:=by
  have h0:cw (0*0) A B≤0:=by
    unfold cw
    have:zi (0*0)*A=Sg.o:=sgZ _ (by rw [sgM,s_zi]; show (0:Int)*_=0; rw [Int.zero_mul])
    rw [this,Nl,sgN]; omega
  obtain ⟨h1,h2,h3,h4⟩:=LF (T:=fun m=>decide (cw (m*m) A B≤0)) (fun a b ha hab h=>by
    simp only [zD] at h ⊢
    exact cw_mono hA (Int.mul_le_mul hab hab ha (by omega)) h) 32 0 (Int.le_refl _) (by decide) (by simpa using h0)
  change 0≤dr A B at h1
  refine ⟨h1,h2,of_decide_eq_true h3,fun m h5 h6=> ?_⟩
  have h7 := h4 m h5 (by show m<0+((2^32:Nat):Int); have:((2^32:Nat):Int)=4294967296:=by decide
                         omega) h6
  simp only [decide_eq_false_iff_not] at h7
  rcases sgC (zi (m*m)*A+ -B) with h|h|h
  · exact absurd (show cw (m*m) A B≤0 by unfold cw; omega) h7
  · exact absurd (show cw (m*m) A B≤0 by unfold cw; omega) h7
  · exact h
theorem I6 {x y:Q} {X D σ τ:Z6} (hx:Rep x X D) (hy:Rep y σ τ) (ox:x.ok=true) (oy:y.ok=true) (hσ:Sg.s σ=1) (hτ:Sg.s τ=1) (hu:0≤cw KK (D*D*σ) (X*X*τ*zi KK)):
  ∃n h:Int,0≤n∧n≤h∧h≤16777216∧cw (n*n) (D*D*σ) (X*X*τ*zi KK)≤0∧0≤cw (h*h) (D*D*σ) (X*X*τ*zi KK)∧dquot x y=((bif decide (x.sg<0) then -h else n),(bif decide (x.sg<0) then -n else h),0):=by
 have hA:Sg.s (D*D*σ)=1:=by rw [sgM,hσ,s_sq hx.nz]; rfl
 have hB:0≤Sg.s (X*X*τ*zi KK):=by
  rw [sgM,sgM,hτ,s_zi]; show 0≤Sg.s (X*X)*1*1; rw [Int.mul_one,Int.mul_one]; exact GW X
 rw [Rx hx hy ox oy hσ]
 generalize D*D*σ=A at*
 generalize X*X*τ*zi KK=B at*
 obtain ⟨h1,h2,h3,h4⟩:=dr_spec hA hB
 have hn:dr A B≤16777216:=by
  rcases Int.lt_or_le 16777216 (dr A B) with h|h
  ·have:(16777217:Int)*16777217≤dr A B*dr A B:=Int.mul_le_mul (by omega) (by omega) (by decide) (by omega)
   have:=TV hA (show KK<dr A B*dr A B by unfold KK; omega) hu
   omega
  ·exact h
 generalize dr A B=n at*
 have ck:∀a b:Int,-16777216≤a→b≤16777216→dchk (a,b)=(a,b,0):=fun a b ha hb=>by
  unfold dchk
  rw [decide_eq_true (show -1073741824≤(a,b).1 by simp only; omega),decide_eq_true (show (a,b).2≤1073741824 by simp only; omega)]
  rfl
 by_cases hc:cw (n*n) A B<0
 ·have hlt:n<16777216:=by
   rcases Int.lt_or_le n 16777216 with h|h
   ·exact h
   ·have e:n=16777216:=by omega
    subst e
    change cw KK A B<0 at hc
    omega
  refine ⟨n,n+1,h1,by omega,by omega,h3,?_,?_⟩
  ·have:=h4 (n+1) (by omega) (by omega); omega
  ·rw [decide_eq_true hc]
   cases decide (x.sg<0) with
   |true=>exact ck _ _ (by omega) (by omega)
   |false=>exact ck _ _ (by omega) (by omega)
 ·refine ⟨n,n,h1,Int.le_refl _,hn,h3,by omega,?_⟩
  rw [decide_eq_false hc]
  cases decide (x.sg<0) with
  |true=>exact ck _ _ (by omega) (by omega)
  |false=>exact ck _ _ (by omega) (by omega)
theorem Hq {x y:Z6} (hx:Sg.s x≤0) (hy:Sg.s y≤0):Sg.s (x+y)≤0:=by
 rcases sgC x with h1|h1|h1<;>rcases sgC y with h2|h2|h2<;>try omega
 ·have:=sgA (-x) (-y) (by rw [sgN,h1]; rfl) (by rw [sgN,h2]; rfl)
  rw [←neg_add,sgN] at this
  omega
 ·rw [sgZ y h2,NP]; omega
 ·rw [sgZ x h1,Nl]; omega
 ·rw [sgZ x h1,Nl]; omega
theorem Gc {x y:Z6} (hx:0≤Sg.s x) (hy:0≤Sg.s y):0≤Sg.s (x+y):=by
 have:=Hq (x:= -x) (y:= -y) (by rw [sgN]; omega) (by rw [sgN]; omega)
 rw [←neg_add,sgN] at this
 omega
def sgm (P0 P1 P2 R0 R1 R2:Z6):Z6:=(P0*R1+P1*R0)*R2+P2*(R0*R1)
theorem O6 (P0 P1 P2 R0 R1 R2:Z6):sgm P0 P1 P2 R0 R1 R2=P0*(R1*R2)+P1*(R0*R2)+P2*(R0*R1):=by
 unfold sgm
 rw [Z6.add_mul,Z6.mul_assoc P0,Z6.mul_assoc P1]
theorem cE (z k P R E σ τ:Z6) (h:R*E=τ):(z*(R*σ)+ -(P*τ*k))*E=z*(σ*τ)+ -(P*E*(τ*k)):=by
 rw [Z6.add_mul,Z6.neg_mul,←h]
 congr 1
 ·ac_rfl
 ·congr 1; ac_rfl
theorem O2 (z0 z1 z2 k P0 P1 P2 R0 R1 R2:Z6):
  (z0*(R0*sgm P0 P1 P2 R0 R1 R2)+ -(P0*(R0*R1*R2)*k))*(R1*R2)+(z1*(R1*sgm P0 P1 P2 R0 R1 R2)+ -(P1*(R0*R1*R2)*k))*(R0*R2)+(z2*(R2*sgm P0 P1 P2 R0 R1 R2)+ -(P2*(R0*R1*R2)*k))*(R0*R1)=
  (z0+z1+z2+ -k)*(sgm P0 P1 P2 R0 R1 R2*(R0*R1*R2)):=by
 rw [cE z0 k P0 R0 (R1*R2) _ (R0*R1*R2) (by ac_rfl),cE z1 k P1 R1 (R0*R2) _ (R0*R1*R2) (by ac_rfl),cE z2 k P2 R2 (R0*R1) _ (R0*R1*R2) (by ac_rfl)]
 have e:=O6 P0 P1 P2 R0 R1 R2
 generalize sgm P0 P1 P2 R0 R1 R2=σ at*
 generalize R0*R1*R2=τ at*
 have e2: -(k*(σ*τ))= -(P0*(R1*R2)*(τ*k))+ -(P1*(R0*R2)*(τ*k))+ -(P2*(R0*R1)*(τ*k)):=by
  rw [←neg_add,←neg_add,←Z6.add_mul,←Z6.add_mul,←e]
  congr 1; ac_rfl
 rw [Z6.add_mul,Z6.add_mul,Z6.add_mul,Z6.neg_mul,e2]
 ac_rfl
section
variable {P0 P1 P2 R0 R1 R2:Z6} (r0:Sg.s R0=1) (r1:Sg.s R1=1) (r2:Sg.s R2=1) (hσ:Sg.s (sgm P0 P1 P2 R0 R1 R2)=1)
include r0 r1 r2 hσ
theorem SI (a b c:Int):Sg.s ((zi a+zi b+zi c+ -zi KK)*(sgm P0 P1 P2 R0 R1 R2*(R0*R1*R2)))=sgn (a+b+c-KK):=by
 rw [sgM,sgM,sgM,sgM,hσ,r0,r1,r2,←S6,←KL,←KL,←KL,s_zi]
 simp only [Int.mul_one]
 rfl
theorem sum_le {a b c:Int} (h0:cw a (R0*sgm P0 P1 P2 R0 R1 R2) (P0*(R0*R1*R2)*zi KK)≤0) (h1:cw b (R1*sgm P0 P1 P2 R0 R1 R2) (P1*(R0*R1*R2)*zi KK)≤0) (h2:cw c (R2*sgm P0 P1 P2 R0 R1 R2) (P2*(R0*R1*R2)*zi KK)≤0):a+b+c≤KK:=by
 have h:=SI r0 r1 r2 hσ a b c
 rw [←O2] at h
 have g:∀ {x E:Z6},Sg.s x≤0→Sg.s E=1→Sg.s (x*E)≤0:=fun hx hE=>by rw [sgM,hE]; omega
 have m:∀ {x y:Z6},Sg.s x=1→Sg.s y=1→Sg.s (x*y)=1:=fun hx hy=>by rw [sgM,hx,hy]; rfl
 have:=Hq (Hq (g h0 (m r1 r2)) (g h1 (m r0 r2))) (g h2 (m r0 r1))
 rw [h] at this
 rcases Int.lt_or_le KK (a+b+c) with h3|h3
 ·have:=(Kl (n:=a+b+c-KK)).2 (by omega); omega
 ·exact h3
theorem sum_ge {a b c:Int} (h0:0≤cw a (R0*sgm P0 P1 P2 R0 R1 R2) (P0*(R0*R1*R2)*zi KK)) (h1:0≤cw b (R1*sgm P0 P1 P2 R0 R1 R2) (P1*(R0*R1*R2)*zi KK)) (h2:0≤cw c (R2*sgm P0 P1 P2 R0 R1 R2) (P2*(R0*R1*R2)*zi KK)):KK≤a+b+c:=by
 have h:=SI r0 r1 r2 hσ a b c
 rw [←O2] at h
 have g:∀ {x E:Z6},0≤Sg.s x→Sg.s E=1→0≤Sg.s (x*E):=fun hx hE=>by rw [sgM,hE]; omega
 have m:∀ {x y:Z6},Sg.s x=1→Sg.s y=1→Sg.s (x*y)=1:=fun hx hy=>by rw [sgM,hx,hy]; rfl
 have:=Gc (Gc (g h0 (m r1 r2)) (g h1 (m r0 r2))) (g h2 (m r0 r1))
 rw [h] at this
 rcases Int.lt_or_le (a+b+c) KK with h3|h3
 ·have:=(Ou (n:=a+b+c-KK)).2 (by omega); omega
 ·exact h3
end
theorem I1 {P Q R E σ τ:Z6} (h:R*E=τ) (e:σ=P*E+Q) (hE:Sg.s E=1) (hτ:Sg.s τ=1) (hQ:0≤Sg.s Q):0≤cw KK (R*σ) (P*τ*zi KK):=by
 have e1:=cE (zi KK) (zi KK) P R E σ τ h
 have e2:zi KK*(σ*τ)+ -(P*E*(τ*zi KK))=Q*(τ*zi KK):=by
  have:zi KK*(σ*τ)=(P*E+Q)*(τ*zi KK):=by rw [e]; ac_rfl
  rw [this,Z6.add_mul]
  calc P*E*(τ*zi KK)+Q*(τ*zi KK)+ -(P*E*(τ*zi KK))=Q*(τ*zi KK)+(P*E*(τ*zi KK)+ -(P*E*(τ*zi KK))):=by ac_rfl
   _=Q*(τ*zi KK):=by rw [Z6.add_neg,NP]
 have e3:=congrArg Sg.s (e1.trans e2)
 rw [sgM,hE,Int.mul_one,sgM,sgM,hτ,s_zi] at e3
 unfold cw
 rw [e3]
 show 0≤Sg.s Q*(1*1)
 omega
end Go.Proofs.YtphlckkbihmlnaaGreatDoor.G
end
section
namespace Go.Proofs.YtphlckkbihmlnaaGreatDoor.G
open Go Go.Proofs Go.RowKit Go.Shelf
attribute [local go_sem] Oper.semAt_some
theorem idx0 (a0 a2 a4 a6 a8 b0 b2 b4 b6 b8 c0 c2 c4 c6 c8:Bool) (a1 a3 a5 a7 a9 b1 b3 b5 b7 b9 c1 c3 c5 c7 c9:ByteArray) (w:World):(Instr.index 131 (.agg #[.bool a0,.string a1,.bool a2,.string a3,.bool a4,.string a5,.bool a6,.string a7,.bool a8,.string a9,.bool b0,.string b1,.bool b2,.string b3,.bool b4,.string b5,.bool b6,.string b7,.bool b8,.string b9,.bool c0,.string c1,.bool c2,.string c3,.bool c4,.string c5,.bool c6,.string c7,.bool c8,.string c9]) (.int .i64 0)).run Tryz.prog w= .ok (.agg #[.bool a0,.string a1,.bool a2,.string a3,.bool a4,.string a5,.bool a6,.string a7,.bool a8,.string a9]) w:=by kernel_rfl
theorem idx1 (a0 a2 a4 a6 a8 b0 b2 b4 b6 b8 c0 c2 c4 c6 c8:Bool) (a1 a3 a5 a7 a9 b1 b3 b5 b7 b9 c1 c3 c5 c7 c9:ByteArray) (w:World):(Instr.index 131 (.agg #[.bool a0,.string a1,.bool a2,.string a3,.bool a4,.string a5,.bool a6,.string a7,.bool a8,.string a9,.bool b0,.string b1,.bool b2,.string b3,.bool b4,.string b5,.bool b6,.string b7,.bool b8,.string b9,.bool c0,.string c1,.bool c2,.string c3,.bool c4,.string c5,.bool c6,.string c7,.bool c8,.string c9]) (.int .i64 1)).run Tryz.prog w= .ok (.agg #[.bool b0,.string b1,.bool b2,.string b3,.bool b4,.string b5,.bool b6,.string b7,.bool b8,.string b9]) w:=by kernel_rfl
theorem idx2 (a0 a2 a4 a6 a8 b0 b2 b4 b6 b8 c0 c2 c4 c6 c8:Bool) (a1 a3 a5 a7 a9 b1 b3 b5 b7 b9 c1 c3 c5 c7 c9:ByteArray) (w:World):(Instr.index 131 (.agg #[.bool a0,.string a1,.bool a2,.string a3,.bool a4,.string a5,.bool a6,.string a7,.bool a8,.string a9,.bool b0,.string b1,.bool b2,.string b3,.bool b4,.string b5,.bool b6,.string b7,.bool b8,.string b9,.bool c0,.string c1,.bool c2,.string c3,.bool c4,.string c5,.bool c6,.string c7,.bool c8,.string c9]) (.int .i64 2)).run Tryz.prog w= .ok (.agg #[.bool c0,.string c1,.bool c2,.string c3,.bool c4,.string c5,.bool c6,.string c7,.bool c8,.string c9]) w:=by kernel_rfl
attribute [local go_sem] idx0 idx1 idx2
set_option maxHeartbeats 2000000 in
theorem PN (F:Fence) (n:Nat) (h7:F.fn 117) (hro:F.round=none) (hn:1≤n) (l B:Nat) (n₀:Nat)
  (a0 a2 a4 a6 a8 b0 b2 b4 b6 b8 c0 c2 c4 c6 c8:Bool) (a1 a3 a5 a7 a9 b1 b3 b5 b7 b9 c1 c3 c5 c7 c9:ByteArray) (enc:Fin 3→Array Value) (e0:enc 0= #[.int .i64 0,.agg #[.bool a0,.string a1,.bool a2,.string a3,.bool a4,.string a5,.bool a6,.string a7,.bool a8,.string a9]]) (e1:enc 1= #[.int .i64 1,.agg #[.bool b0,.string b1,.bool b2,.string b3,.bool b4,.string b5,.bool b6,.string b7,.bool b8,.string b9]]) (e2:enc 2= #[.int .i64 2,.agg #[.bool c0,.string c1,.bool c2,.string c3,.bool c4,.string c5,.bool c6,.string c7,.bool c8,.string c9]]) (J Jx:List (Fin 3)→World→Prop)
  (hY:∀pre x W,J pre W→pre.length<3→YieldAt F (n-1) Tryz.prog l (enc x) W fun e W'=>
   (e= .returned (.bool true)∧J (pre++[x]) W'∧Below n₀ W W')∨(e= .returned (.bool false)∧Jx (pre++[x]) W'))
  (hJA:∀ {s W o},J s W→J s (W.alloc o))
  (W:World) (hB:W.heap[B]? =some (.cells #[.bool a0,.string a1,.bool a2,.string a3,.bool a4,.string a5,.bool a6,.string a7,.bool a8,.string a9,.bool b0,.string b1,.bool b2,.string b3,.bool b4,.string b5,.bool b6,.string b7,.bool b8,.string b9,.bool c0,.string c1,.bool c2,.string c3,.bool c4,.string c5,.bool c6,.string c7,.bool c8,.string c9] 29 (0,0))) (h0:J [] W):
  CallsIn F n Tryz.prog 117 #[.func (.yield l) #[] #[],.pointer (some ⟨B,0,none⟩)] W fun e W'=>(∃v,e= .returned v)∧
   ((∃ys,ys=[(0:Fin 3),1,2]∧J ys W')∨(∃pre,True∧Jx pre W')):=by
 refine callsIn_of_wp Tryz.func117 rfl h7 ?_ hro
 simp only [Tryz.ntmps117,List.size_toArray,List.length_cons,List.length_nil,Nat.reduceAdd,Nat.reduceSub,Array.replicate_succ,Array.replicate_zero,List.push_toArray,List.append_toArray,List.nil_append,List.cons_append]
 have k0:W.cell? ⟨B,0,none⟩=some (.bool a0):=by simp [World.cell?,hB]
 have k1:W.cell? ⟨B,1,none⟩=some (.string a1):=by simp [World.cell?,hB]
 have k2:W.cell? ⟨B,2,none⟩=some (.bool a2):=by simp [World.cell?,hB]
 have k3:W.cell? ⟨B,3,none⟩=some (.string a3):=by simp [World.cell?,hB]
 have k4:W.cell? ⟨B,4,none⟩=some (.bool a4):=by simp [World.cell?,hB]
 have k5:W.cell? ⟨B,5,none⟩=some (.string a5):=by simp [World.cell?,hB]
 have k6:W.cell? ⟨B,6,none⟩=some (.bool a6):=by simp [World.cell?,hB]
 have k7:W.cell? ⟨B,7,none⟩=some (.string a7):=by simp [World.cell?,hB]
 have k8:W.cell? ⟨B,8,none⟩=some (.bool a8):=by simp [World.cell?,hB]
 have k9:W.cell? ⟨B,9,none⟩=some (.string a9):=by simp [World.cell?,hB]
 have k10:W.cell? ⟨B,10,none⟩=some (.bool b0):=by simp [World.cell?,hB]
 have k11:W.cell? ⟨B,11,none⟩=some (.string b1):=by simp [World.cell?,hB]
 have k12:W.cell? ⟨B,12,none⟩=some (.bool b2):=by simp [World.cell?,hB]
 have k13:W.cell? ⟨B,13,none⟩=some (.string b3):=by simp [World.cell?,hB]
 have k14:W.cell? ⟨B,14,none⟩=some (.bool b4):=by simp [World.cell?,hB]
 have k15:W.cell? ⟨B,15,none⟩=some (.string b5):=by simp [World.cell?,hB]
 have k16:W.cell? ⟨B,16,none⟩=some (.bool b6):=by simp [World.cell?,hB]
 have k17:W.cell? ⟨B,17,none⟩=some (.string b7):=by simp [World.cell?,hB]
 have k18:W.cell? ⟨B,18,none⟩=some (.bool b8):=by simp [World.cell?,hB]
 have k19:W.cell? ⟨B,19,none⟩=some (.string b9):=by simp [World.cell?,hB]
 have k20:W.cell? ⟨B,20,none⟩=some (.bool c0):=by simp [World.cell?,hB]
 have k21:W.cell? ⟨B,21,none⟩=some (.string c1):=by simp [World.cell?,hB]
 have k22:W.cell? ⟨B,22,none⟩=some (.bool c2):=by simp [World.cell?,hB]
 have k23:W.cell? ⟨B,23,none⟩=some (.string c3):=by simp [World.cell?,hB]
 have k24:W.cell? ⟨B,24,none⟩=some (.bool c4):=by simp [World.cell?,hB]
 have k25:W.cell? ⟨B,25,none⟩=some (.string c5):=by simp [World.cell?,hB]
 have k26:W.cell? ⟨B,26,none⟩=some (.bool c6):=by simp [World.cell?,hB]
 have k27:W.cell? ⟨B,27,none⟩=some (.string c7):=by simp [World.cell?,hB]
 have k28:W.cell? ⟨B,28,none⟩=some (.bool c8):=by simp [World.cell?,hB]
 have k29:W.cell? ⟨B,29,none⟩=some (.string c9):=by simp [World.cell?,hB]
 clear hB
 gi_wp2
 gi_loopw [12] (fun i wr=>∃k:Nat,k≤3∧i= .int .i64 k∧J ([(0:Fin 3),1,2].take k) wr)
  (fun i _=>3-(intOf i).toNat)
 case atStart=>exact ⟨0,by omega,rfl,h0⟩
 case round=>
  obtain ⟨k,hk,rfl,hJs⟩:=hrel
  have hc:k=0∨k=1∨k=2∨k=3:=by omega
  rcases hc with rfl|rfl|rfl|rfl
  ·obtain ⟨fn,tmps,assign,body,hy,hR⟩:=hY _ 0 (wr.alloc (.cells #[.bool a0,.string a1,.bool a2,.string a3,.bool a4,.string a5,.bool a6,.string a7,.bool a8,.string a9] 27)) (hJA hJs) (by simp)
   rw [e0] at hy
   gi_wp2
   refine hR.mono ?_
   rintro e W3 (⟨rfl,hJ3,hk3⟩|⟨rfl,hJx3⟩)
   ·gi_wp2
    go_roundw
    case rel=>exact ⟨1,by omega,by simp,hJ3⟩
    case measure=>simp [intOf]
   ·gi_wp2
    refine bodyPost_ret (results_none rfl _ _ _) rfl ?_
    exact ⟨⟨_,rfl⟩,.inr ⟨_,trivial,hJx3⟩⟩
  ·obtain ⟨fn,tmps,assign,body,hy,hR⟩:=hY _ 1 (wr.alloc (.cells #[.bool b0,.string b1,.bool b2,.string b3,.bool b4,.string b5,.bool b6,.string b7,.bool b8,.string b9] 27)) (hJA hJs) (by simp)
   rw [e1] at hy
   gi_wp2
   refine hR.mono ?_
   rintro e W3 (⟨rfl,hJ3,hk3⟩|⟨rfl,hJx3⟩)
   ·gi_wp2
    go_roundw
    case rel=>exact ⟨2,by omega,by simp,hJ3⟩
    case measure=>simp [intOf]
   ·gi_wp2
    refine bodyPost_ret (results_none rfl _ _ _) rfl ?_
    exact ⟨⟨_,rfl⟩,.inr ⟨_,trivial,hJx3⟩⟩
  ·obtain ⟨fn,tmps,assign,body,hy,hR⟩:=hY _ 2 (wr.alloc (.cells #[.bool c0,.string c1,.bool c2,.string c3,.bool c4,.string c5,.bool c6,.string c7,.bool c8,.string c9] 27)) (hJA hJs) (by simp)
   rw [e2] at hy
   gi_wp2
   refine hR.mono ?_
   rintro e W3 (⟨rfl,hJ3,hk3⟩|⟨rfl,hJx3⟩)
   ·gi_wp2
    go_roundw
    case rel=>exact ⟨3,by omega,by simp,hJ3⟩
    case measure=>simp [intOf]
   ·gi_wp2
    refine bodyPost_ret (results_none rfl _ _ _) rfl ?_
    exact ⟨⟨_,rfl⟩,.inr ⟨_,trivial,hJx3⟩⟩
  ·gi_wp2
   go_end0
   exact ⟨⟨_,rfl⟩,.inl ⟨_,rfl,hJs⟩⟩
set_option maxHeartbeats 1000000 in
theorem Py (F:Fence) (n:Nat) (h5:F.fn 94) (hro:F.round=none) (cs:Array Value) (w:World):
  CallsIn F n Tryz.prog 94 #[.agg cs] w fun e w'=>e= .returned (.func (.func 117) #[] #[.pointer (some ⟨w.heap.size,0,none⟩)])∧w'=w.alloc (.cells cs 29):=by
 refine callsIn_of_wp Tryz.func94 rfl h5 ?_ hro
 simp only [Tryz.ntmps94,List.size_toArray,List.length_cons,List.length_nil,Nat.reduceAdd,Nat.reduceSub,Array.replicate_succ,Array.replicate_zero,List.push_toArray,List.append_toArray,List.nil_append,List.cons_append]
 gi_wp2
 go_ret
 exact ⟨rfl,rfl⟩
theorem QH {X Y:World} {row:Option Nat} {B:Nat} {C:Array Value} {t:TypeId} (h:X.heap[B]? =some (.cells C t (0,0))) (hg:X.grownBy Y row) (hr:∀r,row=some r→∃o:Obj,X.heap[r]? =some o∧o.isCells=false):Y.heap[B]? =some (.cells C t (0,0)):=by
 refine (hg.block B (Array.getElem?_eq_some_iff.1 h).1 fun e=> ?_).trans h
 obtain ⟨o,ho,hc⟩:=hr B e.symm
 rw [h] at ho; cases ho; cases hc
theorem fin3 (x:Fin 3):x=0∨x=1∨x=2:=by revert x; decide
theorem NS (F:Fence) (n:Nat) (h7:F.fn 117) (hro:F.round=none) (hn:1≤n) (B:Nat) (n₀:Nat) (a0 a2 a4 a6 a8 b0 b2 b4 b6 b8 c0 c2 c4 c6 c8:Bool) (a1 a3 a5 a7 a9 b1 b3 b5 b7 b9 c1 c3 c5 c7 c9:ByteArray) (cs:Array Value) (hcs:cs= #[.bool a0,.string a1,.bool a2,.string a3,.bool a4,.string a5,.bool a6,.string a7,.bool a8,.string a9,.bool b0,.string b1,.bool b2,.string b3,.bool b4,.string b5,.bool b6,.string b7,.bool b8,.string b9,.bool c0,.string c1,.bool c2,.string c3,.bool c4,.string c5,.bool c6,.string c7,.bool c8,.string c9])
  (enc:Fin 3→Array Value) (e0:enc 0= #[.int .i64 0,.agg #[.bool a0,.string a1,.bool a2,.string a3,.bool a4,.string a5,.bool a6,.string a7,.bool a8,.string a9]]) (e1:enc 1= #[.int .i64 1,.agg #[.bool b0,.string b1,.bool b2,.string b3,.bool b4,.string b5,.bool b6,.string b7,.bool b8,.string b9]]) (e2:enc 2= #[.int .i64 2,.agg #[.bool c0,.string c1,.bool c2,.string c3,.bool c4,.string c5,.bool c6,.string c7,.bool c8,.string c9]]) (w:World) (hB:w.heap[B]? =some (.cells cs 29 (0,0))):
  SeqStopsK F n Tryz.prog 117 #[.pointer (some ⟨B,0,none⟩)] enc (Below n₀) (fun ys=>ys=[(0:Fin 3),1,2]) (fun _=>True) 3 w:=fun l J Jx W hW hJ _ hY h0=>by
 subst hcs
 exact PN F n h7 hro hn l B n₀ a0 a2 a4 a6 a8 b0 b2 b4 b6 b8 c0 c2 c4 c6 c8 a1 a3 a5 a7 a9 b1 b3 b5 b7 b9 c1 c3 c5 c7 c9 enc e0 e1 e2 J Jx hY (fun hs=>hJ _ _ _ none hs (World.grownBy_alloc _ _ none) (fun r e=>by cases e)) W ((hW.block B (Array.getElem?_eq_some_iff.1 hB).1).trans hB) h0
theorem LM {F:Fence} {n:Nat} {P:Program} {w:World} {ops:Array Oper} {rest:List Oper} {o:Oper} {a:Act} {Q:Exit→Act→World→Prop}
  (hg:o.guard=none) (x:Operand) (hop:o.op= .load 29 x) {ad:Addr} (hx:a.eval x= .pointer (some ad)) {v:Value} (hr:(loadVar 29 ad).run P w= .ok v w)
  (h:wpListIn F n P ops Q rest (a.put o.dst v) w):wpListIn F n P ops Q (o::rest) a w:=by
 refine wpListIn_plain hg fun K hK=> ?_
 unfold Oper.wpIn
 refine ⟨by simp [Oper.about,hop],?_⟩
 rw [Oper.semAt_plain F _ _ (by rw [hop]; intro c hc'; cases hc')]
 simp [execOp,hop,hx,Instr.loadAt,Instr.sureAddr,hr,Result.andThen]
 exact hK _ _ h
set_option maxHeartbeats 4000000 in
theorem RT (n:Nat) (hn:6≤n) (a0 a2 a4 a6 a8 b0 b2 b4 b6 b8 c0 c2 c4 c6 c8:Bool) (a1 a3 a5 a7 a9 b1 b3 b5 b7 b9 c1 c3 c5 c7 c9:ByteArray) (bb:Fin 3→Bool) (w:World) (cs:Array Value) (hcs:cs= #[.bool a0,.string a1,.bool a2,.string a3,.bool a4,.string a5,.bool a6,.string a7,.bool a8,.string a9,.bool b0,.string b1,.bool b2,.string b3,.bool b4,.string b5,.bool b6,.string b7,.bool b8,.string b9,.bool c0,.string c1,.bool c2,.string c3,.bool c4,.string c5,.bool c6,.string c7,.bool c8,.string c9])
  (enc:Fin 3→Array Value) (e0:enc 0= #[.int .i64 0,.agg #[.bool a0,.string a1,.bool a2,.string a3,.bool a4,.string a5,.bool a6,.string a7,.bool a8,.string a9]]) (e1:enc 1= #[.int .i64 1,.agg #[.bool b0,.string b1,.bool b2,.string b3,.bool b4,.string b5,.bool b6,.string b7,.bool b8,.string b9]]) (e2:enc 2= #[.int .i64 2,.agg #[.bool c0,.string c1,.bool c2,.string c3,.bool c4,.string c5,.bool c6,.string c7,.bool c8,.string c9]])
  (encv:Fin 3→Array Value) (encv0:encv 0= #[.bool a0,.string a1,.bool a2,.string a3,.bool a4,.string a5,.bool a6,.string a7,.bool a8,.string a9]) (encv1:encv 1= #[.bool b0,.string b1,.bool b2,.string b3,.bool b4,.string b5,.bool b6,.string b7,.bool b8,.string b9]) (encv2:encv 2= #[.bool c0,.string c1,.bool c2,.string c3,.bool c4,.string c5,.bool c6,.string c7,.bool c8,.string c9])
  (hX:∀W,Below w.heap.size w W→Calls Tryz.prog 68 #[.agg #[.bool a0,.string a1,.bool a2,.string a3,.bool a4,.string a5,.bool a6,.string a7,.bool a8,.string a9]] W fun e W'=>e= .returned (.bool (bb 0))∧Below W.heap.size W W')
  (hY:∀W,Below w.heap.size w W→Calls Tryz.prog 68 #[.agg #[.bool b0,.string b1,.bool b2,.string b3,.bool b4,.string b5,.bool b6,.string b7,.bool b8,.string b9]] W fun e W'=>e= .returned (.bool (bb 1))∧Below W.heap.size W W')
  (hZ:∀W,Below w.heap.size w W→Calls Tryz.prog 68 #[.agg #[.bool c0,.string c1,.bool c2,.string c3,.bool c4,.string c5,.bool c6,.string c7,.bool c8,.string c9]] W fun e W'=>e= .returned (.bool (bb 2))∧Below W.heap.size W W'):
  CallsIn Fence.wide n Tryz.prog 66 #[.agg cs] w fun e W'=>e= .returned (.bool (bb 0&&(bb 1&&bb 2)))∧Below w.heap.size w W':=by
 have h1:1≤n:=by omega
 have hps:∀x:Fin 3,(enc x).size=(#[7,8]:Array Tmp).size:=by
  intro x
  rcases fin3 x with rfl|rfl|rfl
  ·rw [e0]; rfl
  ·rw [e1]; rfl
  ·rw [e2]; rfl
 have hL:(loadVar 29 ⟨w.heap.size,0,none⟩).run Tryz.prog ((w.alloc (.cells cs 29)).alloc (.cells #[.bool false] 4))= .ok (.agg cs) ((w.alloc (.cells cs 29)).alloc (.cells #[.bool false] 4)):=by
  subst hcs
  exact RX.run_loadVar ((Below.heap_alloc _ _ _ (by simp)).trans (World.alloc_heap_new w _)) (by kernel_rfl)
 have HL:=Lib.hid hL
 have HC:=Lib.hid hcs
 clear hL hcs
 refine callsIn_of_wp_marks Tryz.func66 rfl trivial ?_ rfl
 simp only [Tryz.ntmps66,List.size_toArray,List.length_cons,List.length_nil,Nat.reduceAdd,Nat.reduceSub,Array.replicate_succ,Array.replicate_zero,List.push_toArray,List.append_toArray,List.nil_append,List.cons_append]
 gi_wp2_with (first|(refine LM rfl _ rfl rfl HL.out ?_)|(refine ⟨trivial,?_⟩; gi_at_call 94; refine (Py Fence.wide (n-1) trivial rfl cs _).mono ?_; rintro e w' ⟨rfl,rfl⟩))
 have bS:=(Boxed.new (w.alloc (.cells cs 29)) 4 (.bool false)).alloc (.cells cs 29)
 have hA:(((w.alloc (.cells cs 29)).alloc (.cells #[.bool false] 4)).alloc (.cells cs 29)).heap[w.heap.size+1+1]? =some (.cells cs 29 (0,0)):=by
  have:=World.alloc_heap_new ((w.alloc (.cells cs 29)).alloc (.cells #[.bool false] 4)) (.cells cs 29)
  simpa using this
 have hB0:Below w.heap.size w (((w.alloc (.cells cs 29)).alloc (.cells #[.bool false] 4)).alloc (.cells cs 29)):=(((Below.refl _ w).alloc (Nat.le_refl _) _).alloc (by simp) _).alloc (by simp; omega) _
 have hsz:(((w.alloc (.cells cs 29)).alloc (.cells #[.bool false] 4)).alloc (.cells cs 29)).heap.size=w.heap.size+3:=by simp
 simp only [World.size_alloc] at bS
 obtain ⟨W0,hW0⟩:∃W0,((w.alloc (.cells cs 29)).alloc (.cells #[.bool false] 4)).alloc (.cells cs 29)=W0:=⟨_,rfl⟩
 rw [hW0] at bS hA hB0 hsz ⊢
 clear hW0 HL
 refine wpIn_rangeFunc_ownH (α:=Fin 3) rfl h1 (gf:=117) (lb:= #[.pointer (some ⟨w.heap.size+1+1,0,none⟩)]) rfl trivial (enters_of Tryz.func117 (by kernel_rfl) rfl)
  (NS Fence.wide (n-1) trivial rfl (by omega) (w.heap.size+1+1) w.heap.size a0 a2 a4 a6 a8 b0 b2 b4 b6 b8 c0 c2 c4 c6 c8 a1 a3 a5 a7 a9 b1 b3 b5 b7 b9 c1 c3 c5 c7 c9 cs HC.out enc e0 e1 e2 W0 hA) belowK_t (belowK_b (by omega)) (Below.refl _ _) hps
  (fun pre W=>(Boxed W (w.heap.size+1) 4 (.bool false)∧∀x∈pre,bb x=true)∧Below w.heap.size w W)
  (fun c pre W=>(c= .ret∧Boxed W (w.heap.size+1) 4 (.bool false)∧(bb 0&&(bb 1&&bb 2))=false)∧Below w.heap.size w W)
  (OwnFrom.and (OwnFrom.and (Own.from (boxed_own _ _ _) _) (fun _ _ _ _ hs _ _=>hs)) (ownFrom_below (Nat.le_refl _) (by omega)))
  (fun c=>OwnFrom.and (OwnFrom.and (fun _ _ _ _ hs _ _=>hs) (OwnFrom.and (Own.from (boxed_own _ _ _) _) (fun _ _ _ _ hs _ _=>hs))) (ownFrom_below (Nat.le_refl _) (by omega)))
  ⟨⟨bS,fun x hx=>by cases hx⟩,hB0⟩
  (fun x a' W=>∃Bx,w.heap.size+1<Bx∧W.heap[Bx]? =some (.cells (encv x) 27 (0,0))∧∃(u7 u8:Value),a'= {tmps:= #[.agg cs,.pointer (some ⟨w.heap.size,0,none⟩),.pointer (some ⟨w.heap.size+1,0,none⟩),undef,.pointer (some ⟨Bx,0,none⟩),.agg cs,.func (.func 117) #[] #[.pointer (some ⟨w.heap.size+1+1,0,none⟩)],u7,u8,undef,undef,undef],defers:=[]})
  (fun x a' _ X Y row hs hg hr=>by obtain ⟨Bx,h1,h2,h3⟩:=hs; exact ⟨Bx,h1,QH h2 hg (fun r e=>(hr r e).2),h3⟩)
  ?assign ?body ?done ?stop
 case assign=>
  rintro l pre x W K ⟨⟨bS1,hp⟩,hB1⟩ hK
  rcases fin3 x with rfl|rfl|rfl
  ·rw [e0]
   gi_wp2
   exact hK _ _ ((KeepsOthers.alloc _ _).from _) ((Below.refl _ W).alloc hB1.size _) ⟨⟨bS1.alloc _,hp⟩,hB1.alloc hB1.size _⟩ ⟨W.heap.size,bS1.lt,by rw [encv0]; exact World.alloc_heap_new W _,_,_,rfl⟩
  ·rw [e1]
   gi_wp2
   exact hK _ _ ((KeepsOthers.alloc _ _).from _) ((Below.refl _ W).alloc hB1.size _) ⟨⟨bS1.alloc _,hp⟩,hB1.alloc hB1.size _⟩ ⟨W.heap.size,bS1.lt,by rw [encv1]; exact World.alloc_heap_new W _,_,_,rfl⟩
  ·rw [e2]
   gi_wp2
   exact hK _ _ ((KeepsOthers.alloc _ _).from _) ((Below.refl _ W).alloc hB1.size _) ⟨⟨bS1.alloc _,hp⟩,hB1.alloc hB1.size _⟩ ⟨W.heap.size,bS1.lt,by rw [encv2]; exact World.alloc_heap_new W _,_,_,rfl⟩
 case body=>
  rintro l pre x a' W hl ⟨r,hr⟩ ⟨⟨bS1,hp⟩,hB1⟩ ⟨Bx,hBx,bX,u7,u8,rfl⟩ hlt
  have h1':1≤n-1-1:=by omega
  have cS:=bS1.cell
  have fS:=bS1.frozen
  rcases fin3 x with rfl|rfl|rfl
  ·rw [encv0] at bX
   have hcx:∀j u,(#[.bool a0,.string a1,.bool a2,.string a3,.bool a4,.string a5,.bool a6,.string a7,.bool a8,.string a9]:Array Value)[j]? =some u→W.cell? ⟨Bx,j,none⟩=some u:=fun j u hu=>by simp [World.cell?,bX,hu]
   have k0:=hcx 0 _ rfl
   have k1:=hcx 1 _ rfl
   have k2:=hcx 2 _ rfl
   have k3:=hcx 3 _ rfl
   have k4:=hcx 4 _ rfl
   have k5:=hcx 5 _ rfl
   have k6:=hcx 6 _ rfl
   have k7:=hcx 7 _ rfl
   have k8:=hcx 8 _ rfl
   have k9:=hcx 9 _ rfl
   clear hcx
   cases hv:bb 0 with
   | false=>
    have HV:=Lib.hid hv
    rw [hv] at hX
    clear hv
    gi_wp2_with (refine ⟨trivial,?_⟩; gi_at_call 68; refine (CallsIn.inRound l (callsIn_wide.2 (hX _ hB1))).mono ?_; rintro e w' ⟨rfl,hb⟩; have cS2:=(hb.cell (p:=⟨w.heap.size+1,0,none⟩) bS1.lt).trans cS; have fS2:=(hb.frozen (p:=⟨w.heap.size+1,0,none⟩) bS1.lt).trans fS)
    exact ⟨(KeepsFrom.trans ⟨hb.size,fun k o _ hk _=>(hb.block k (Array.getElem?_eq_some_iff.1 hk).1).trans hk⟩ ((KeepsOthers.setCell _ _ _).from _)),⟨rfl,Boxed.set (.bool false) (show Boxed w' (w.heap.size+1) 4 (.bool false) from (hb.block _ bS1.lt).trans bS1),by simp⟩,(hB1.trans (hb.mono hB1.size)).setCell (p:=⟨w.heap.size+1,0,none⟩) (by simp) _⟩
   | true=>
    have HV:=Lib.hid hv
    rw [hv] at hX
    clear hv
    gi_wp2_with (refine ⟨trivial,?_⟩; gi_at_call 68; refine (CallsIn.inRound l (callsIn_wide.2 (hX _ hB1))).mono ?_; rintro e w' ⟨rfl,hb⟩)
    exact ⟨⟨hb.size,fun k o _ hk _=>(hb.block k (Array.getElem?_eq_some_iff.1 hk).1).trans hk⟩,hb.mono hB1.size,⟨(hb.block _ bS1.lt).trans bS1,fun y hy=>(List.mem_append.1 hy).elim (hp y) (fun h=>by rw [List.mem_singleton.1 h]; exact HV.out)⟩,hB1.trans (hb.mono hB1.size)⟩
  ·rw [encv1] at bX
   have hcx:∀j u,(#[.bool b0,.string b1,.bool b2,.string b3,.bool b4,.string b5,.bool b6,.string b7,.bool b8,.string b9]:Array Value)[j]? =some u→W.cell? ⟨Bx,j,none⟩=some u:=fun j u hu=>by simp [World.cell?,bX,hu]
   have k0:=hcx 0 _ rfl
   have k1:=hcx 1 _ rfl
   have k2:=hcx 2 _ rfl
   have k3:=hcx 3 _ rfl
   have k4:=hcx 4 _ rfl
   have k5:=hcx 5 _ rfl
   have k6:=hcx 6 _ rfl
   have k7:=hcx 7 _ rfl
   have k8:=hcx 8 _ rfl
   have k9:=hcx 9 _ rfl
   clear hcx
   cases hv:bb 1 with
   | false=>
    have HV:=Lib.hid hv
    rw [hv] at hY
    clear hv
    gi_wp2_with (refine ⟨trivial,?_⟩; gi_at_call 68; refine (CallsIn.inRound l (callsIn_wide.2 (hY _ hB1))).mono ?_; rintro e w' ⟨rfl,hb⟩; have cS2:=(hb.cell (p:=⟨w.heap.size+1,0,none⟩) bS1.lt).trans cS; have fS2:=(hb.frozen (p:=⟨w.heap.size+1,0,none⟩) bS1.lt).trans fS)
    exact ⟨(KeepsFrom.trans ⟨hb.size,fun k o _ hk _=>(hb.block k (Array.getElem?_eq_some_iff.1 hk).1).trans hk⟩ ((KeepsOthers.setCell _ _ _).from _)),⟨rfl,Boxed.set (.bool false) (show Boxed w' (w.heap.size+1) 4 (.bool false) from (hb.block _ bS1.lt).trans bS1),by simp⟩,(hB1.trans (hb.mono hB1.size)).setCell (p:=⟨w.heap.size+1,0,none⟩) (by simp) _⟩
   | true=>
    have HV:=Lib.hid hv
    rw [hv] at hY
    clear hv
    gi_wp2_with (refine ⟨trivial,?_⟩; gi_at_call 68; refine (CallsIn.inRound l (callsIn_wide.2 (hY _ hB1))).mono ?_; rintro e w' ⟨rfl,hb⟩)
    exact ⟨⟨hb.size,fun k o _ hk _=>(hb.block k (Array.getElem?_eq_some_iff.1 hk).1).trans hk⟩,hb.mono hB1.size,⟨(hb.block _ bS1.lt).trans bS1,fun y hy=>(List.mem_append.1 hy).elim (hp y) (fun h=>by rw [List.mem_singleton.1 h]; exact HV.out)⟩,hB1.trans (hb.mono hB1.size)⟩
  ·rw [encv2] at bX
   have hcx:∀j u,(#[.bool c0,.string c1,.bool c2,.string c3,.bool c4,.string c5,.bool c6,.string c7,.bool c8,.string c9]:Array Value)[j]? =some u→W.cell? ⟨Bx,j,none⟩=some u:=fun j u hu=>by simp [World.cell?,bX,hu]
   have k0:=hcx 0 _ rfl
   have k1:=hcx 1 _ rfl
   have k2:=hcx 2 _ rfl
   have k3:=hcx 3 _ rfl
   have k4:=hcx 4 _ rfl
   have k5:=hcx 5 _ rfl
   have k6:=hcx 6 _ rfl
   have k7:=hcx 7 _ rfl
   have k8:=hcx 8 _ rfl
   have k9:=hcx 9 _ rfl
   clear hcx
   cases hv:bb 2 with
   | false=>
    have HV:=Lib.hid hv
    rw [hv] at hZ
    clear hv
    gi_wp2_with (refine ⟨trivial,?_⟩; gi_at_call 68; refine (CallsIn.inRound l (callsIn_wide.2 (hZ _ hB1))).mono ?_; rintro e w' ⟨rfl,hb⟩; have cS2:=(hb.cell (p:=⟨w.heap.size+1,0,none⟩) bS1.lt).trans cS; have fS2:=(hb.frozen (p:=⟨w.heap.size+1,0,none⟩) bS1.lt).trans fS)
    exact ⟨(KeepsFrom.trans ⟨hb.size,fun k o _ hk _=>(hb.block k (Array.getElem?_eq_some_iff.1 hk).1).trans hk⟩ ((KeepsOthers.setCell _ _ _).from _)),⟨rfl,Boxed.set (.bool false) (show Boxed w' (w.heap.size+1) 4 (.bool false) from (hb.block _ bS1.lt).trans bS1),by simp⟩,(hB1.trans (hb.mono hB1.size)).setCell (p:=⟨w.heap.size+1,0,none⟩) (by simp) _⟩
   | true=>
    have HV:=Lib.hid hv
    rw [hv] at hZ
    clear hv
    gi_wp2_with (refine ⟨trivial,?_⟩; gi_at_call 68; refine (CallsIn.inRound l (callsIn_wide.2 (hZ _ hB1))).mono ?_; rintro e w' ⟨rfl,hb⟩)
    exact ⟨⟨hb.size,fun k o _ hk _=>(hb.block k (Array.getElem?_eq_some_iff.1 hk).1).trans hk⟩,hb.mono hB1.size,⟨(hb.block _ bS1.lt).trans bS1,fun y hy=>(List.mem_append.1 hy).elim (hp y) (fun h=>by rw [List.mem_singleton.1 h]; exact HV.out)⟩,hB1.trans (hb.mono hB1.size)⟩
 case done=>
  rintro D ys W hD rfl ⟨⟨bS1,hp⟩,hB1⟩ hK
  have cS:=bS1.cell
  have fS:=bS1.frozen
  have HP:=Lib.hid (show (bb 0&&(bb 1&&bb 2))=true by rw [hp 0 (by simp),hp 1 (by simp),hp 2 (by simp)]; rfl)
  clear hp
  gi_wp2
  have hK':=(KeepsOthers.setCell W ⟨w.heap.size+1,0,none⟩ (.bool true)).same D _ hK rfl
  refine ⟨by simp,.inl ⟨_,_,rfl,run_takeDeferred hK',?_⟩⟩
  have hc5:=cell_kept (World.cell?_setCell_same' W ⟨w.heap.size+1,0,none⟩ (.bool true) (by rw [cS]; rfl)) (grownBy_putObj' _ D (.deferred none)) (fun r e=>by cases e; exact ⟨_,hK',rfl⟩)
  refine ⟨.bool true,?_,by rw [HP.out],(hB1.setCell (p:=⟨w.heap.size+1,0,none⟩) (by simp) _).trans (belowK_b (w:=w) (Nat.le_refl _) _ D _ _ (by omega) hK' rfl rfl)⟩
  simp [results,Tryz.f66,go_sem,hc5]
 case stop=>
  rintro D c pre W hD _ ⟨⟨rfl,bS1,hf⟩,hB1⟩ hK
  have HF:=Lib.hid hf
  clear hf
  have cS:=bS1.cell
  have fS:=bS1.frozen
  gi_wp2
  refine ⟨by simp,.inl ⟨_,_,rfl,run_takeDeferred hK,?_⟩⟩
  have hc5:=cell_kept cS (grownBy_putObj' _ D (.deferred none)) (fun r e=>by cases e; exact ⟨_,hK,rfl⟩)
  refine ⟨.bool false,?_,by rw [HF.out],hB1.trans (belowK_b (w:=w) (Nat.le_refl _) _ D _ _ (by omega) hK rfl rfl)⟩
  simp [results,Tryz.f66,go_sem,hc5]
def vvsp (s:RX.HSpec):RX.HSpec
 | [.agg ⟨[.bool a0,.string a1,.bool a2,.string a3,.bool a4,.string a5,.bool a6,.string a7,.bool a8,.string a9,.bool b0,.string b1,.bool b2,.string b3,.bool b4,.string b5,.bool b6,.string b7,.bool b8,.string b9,.bool c0,.string c1,.bool c2,.string c3,.bool c4,.string c5,.bool c6,.string c7,.bool c8,.string c9]⟩],[]=>
  match s [.agg ⟨[.bool a0,.string a1,.bool a2,.string a3,.bool a4,.string a5,.bool a6,.string a7,.bool a8,.string a9]⟩] [],s [.agg ⟨[.bool b0,.string b1,.bool b2,.string b3,.bool b4,.string b5,.bool b6,.string b7,.bool b8,.string b9]⟩] [],s [.agg ⟨[.bool c0,.string c1,.bool c2,.string c3,.bool c4,.string c5,.bool c6,.string c7,.bool c8,.string c9]⟩] [] with
  |some (n0,.bool b0,[]),some (n1,.bool b1,[]),some (n2,.bool b2,[])=>some (n0&&(n1&&n2),.bool (b0&&(b1&&b2)),[])
  |_,_,_=>none
 |_,_=>none
theorem Ta {s:RX.HSpec} (hs:RX.SOK Tryz.prog 68 s) {cs:List Value} {b:Bool} (h:s [.agg ⟨cs⟩] []=some (true,.bool b,[])) (hc:∀c∈cs,RX.Clo c) (W:World) (ht:RX.TabOk W):Calls Tryz.prog 68 #[.agg ⟨cs⟩] W fun e W'=>e= .returned (.bool b)∧Below W.heap.size W W':=by
 have:=hs.run _ _ _ _ h (fun _ hb=>by cases hb) (fun i=>i) W (fun _ _ hb=>by cases hb) (fun i _ hi=>by cases hi) ht (fun i hi=>by cases hi)
 have e1:(⟨[Value.agg ⟨cs⟩].map (RX.ren fun i=>i)⟩:Array Value)= #[.agg ⟨cs⟩]:=by
  simp only [List.map_cons,List.map_nil,RX.ren_agg,RX.map_clo hc]
 rw [e1] at this
 refine this.mono fun e W' ⟨g',_,he,_,_,_,hk⟩=>⟨by rw [he,RX.ren_bool],?_⟩
 exact ⟨hk.os,hk.tape,hk.output,hk.size,fun k hk'=>hk.block k hk' (fun ⟨i,hi,_⟩=>by cases hi)⟩
theorem KN {w W:World} (ht:RX.TabOk w) (hb:Below w.heap.size w W):RX.TabOk W:=
 ht.of fun x hx=>by
  obtain ⟨o,ho,_⟩:=ht x hx
  exact hb.block _ (Array.getElem?_eq_some_iff.1 ho).1
theorem clo10 (b0 b1 b2 b3 b4:Bool) (s0 s1 s2 s3 s4:ByteArray):∀c∈([.bool b0,.string s0,.bool b1,.string s1,.bool b2,.string s2,.bool b3,.string s3,.bool b4,.string s4]:List Value),RX.Clo c:=
 fun c hc=>by simp only [List.mem_cons,List.not_mem_nil,or_false] at hc; rcases hc with rfl|rfl|rfl|rfl|rfl|rfl|rfl|rfl|rfl|rfl<;>intro g<;>simp
def f3 {α:Type} (x y z:α):Fin 3→α
 |0=>x
 |1=>y
 |2=>z
theorem vvsok {s:RX.HSpec} (hs:RX.SOK Tryz.prog 68 s):RX.SOK Tryz.prog 66 (vvsp s):=by
 refine ⟨⟨Tryz.f66,rfl,by decide,rfl⟩,fun vs bl v bl' h hk1 g w hk2 hk3 ht hk4=> ?_⟩
 clear hk1 hk2 hk3 hk4
 unfold vvsp at h
 split at h
 ·rename_i a0 a1 a2 a3 a4 a5 a6 a7 a8 a9 b0 b1 b2 b3 b4 b5 b6 b7 b8 b9 c0 c1 c2 c3 c4 c5 c6 c7 c8 c9
  split at h
  ·rename_i n0 b0_ n1 b1_ n2 b2_ hx hy hz
   simp only [zS,zP,zB] at h
   obtain ⟨⟨rfl,rfl,rfl⟩,rfl,rfl⟩:=h
   have key:=callsIn_wide.1 (RT 6 (by omega) a0 a2 a4 a6 a8 b0 b2 b4 b6 b8 c0 c2 c4 c6 c8 a1 a3 a5 a7 a9 b1 b3 b5 b7 b9 c1 c3 c5 c7 c9 (f3 (b0_) (b1_) (b2_)) w _ rfl (f3 (#[.int .i64 0,.agg #[.bool a0,.string a1,.bool a2,.string a3,.bool a4,.string a5,.bool a6,.string a7,.bool a8,.string a9]]) (#[.int .i64 1,.agg #[.bool b0,.string b1,.bool b2,.string b3,.bool b4,.string b5,.bool b6,.string b7,.bool b8,.string b9]]) (#[.int .i64 2,.agg #[.bool c0,.string c1,.bool c2,.string c3,.bool c4,.string c5,.bool c6,.string c7,.bool c8,.string c9]])) rfl rfl rfl (f3 (#[.bool a0,.string a1,.bool a2,.string a3,.bool a4,.string a5,.bool a6,.string a7,.bool a8,.string a9]) (#[.bool b0,.string b1,.bool b2,.string b3,.bool b4,.string b5,.bool b6,.string b7,.bool b8,.string b9]) (#[.bool c0,.string c1,.bool c2,.string c3,.bool c4,.string c5,.bool c6,.string c7,.bool c8,.string c9])) rfl rfl rfl (fun W hb=>Ta hs hx (clo10 _ _ _ _ _ _ _ _ _ _) W (KN ht hb)) (fun W hb=>Ta hs hy (clo10 _ _ _ _ _ _ _ _ _ _) W (KN ht hb)) (fun W hb=>Ta hs hz (clo10 _ _ _ _ _ _ _ _ _ _) W (KN ht hb)))
   simp only [List.map_cons,List.map_nil,RX.ren_agg,RX.ren_bool,RX.ren_string]
   exact key.mono fun e W' ⟨he,hb⟩=>⟨g,(fun i hi=>by cases hi),(by rw [he]; rfl),(fun i b hi=>by cases hi),(fun i hi hi2=>by cases hi2),(fun i j _ hi=>by cases hi),⟨hb.os,hb.tape,hb.output,hb.size,fun k hk _=>hb.block k hk⟩⟩
  ·cases h
 ·cases h
end Go.Proofs.YtphlckkbihmlnaaGreatDoor.G
end
section
namespace Go.Proofs.YtphlckkbihmlnaaGreatDoor.G
open Go Go.Proofs RX
section
variable (a0:Bool) (a1:ByteArray) (a2:Bool) (a3:ByteArray) (a4:Bool) (a5:ByteArray) (a6:Bool) (a7:ByteArray) (a8:Bool) (a9:ByteArray) (a10:Bool) (a11:ByteArray) (a12:Bool) (a13:ByteArray) (a14:Bool) (a15:ByteArray) (a16:Bool) (a17:ByteArray) (a18:Bool) (a19:ByteArray) (a20:Bool) (a21:ByteArray) (a22:Bool) (a23:ByteArray) (a24:Bool) (a25:ByteArray) (a26:Bool) (a27:ByteArray) (a28:Bool) (a29:ByteArray)
def Dj:Bool:=Ae a0 a1 a2 a3 a4 a5 a6 a7 a8 a9&&(Ae a10 a11 a12 a13 a14 a15 a16 a17 a18 a19&&Ae a20 a21 a22 a23 a24 a25 a26 a27 a28 a29)
def Dj.pre:Bool:=Ae.pre a0 a1 a2 a3 a4 a5 a6 a7 a8 a9&&(Ae.pre a10 a11 a12 a13 a14 a15 a16 a17 a18 a19&&Ae.pre a20 a21 a22 a23 a24 a25 a26 a27 a28 a29)
end
theorem Dj.ok:SOK Tryz.prog 66 (Dj.sp Dj Dj.pre):=by
 refine ⟨(vvsok Ae.ok).enter,fun vs bl v bl' hs=>(vvsok Ae.ok).run vs bl v bl' ?_⟩
 unfold Dj.sp at hs
 split at hs
 ·rw [←hs]; rfl
 ·cases hs
end Go.Proofs.YtphlckkbihmlnaaGreatDoor.G
end
section
namespace Go.Proofs.YtphlckkbihmlnaaGreatDoor.G
open Go RX
def nv3:List Int→Int
 |[]=>0
 |x::r=>x+16777216*nv3 r
def dig3 (xs:List Int):Prop:=∀x∈xs,0≤x∧x<16777216
def dg3:Nat→Int→List Int
 |0,_=>[]
 |k+1,v=>v%16777216::dg3 k (v/16777216)
theorem JP:∀(k:Nat) (v:Int),(dg3 k v).length=k
 |0,v=>rfl
 |k+1,v=>by simp [dg3,JP k]
theorem OY:∀(k:Nat) (v:Int),dig3 (dg3 k v)
 |0,v=>fun x h=>by simp [dg3] at h
 | k+1,v=>fun x h=>by
  simp only [dg3,List.mem_cons] at h
  rcases h with rfl|h
  ·exact ⟨Int.emod_nonneg _ (by decide),Int.emod_lt_of_pos _ (by decide)⟩
  ·exact OY k _ x h
def pw3 (k:Nat):Int:=((16777216^k:Nat):Int)
theorem Ku:pw3 0=1:=rfl
theorem Kv (k:Nat):pw3 (k+1)=16777216*pw3 k:=by simp only [pw3,Nat.pow_succ,Int.natCast_mul]; rw [Int.mul_comm]; rfl
theorem OF (k:Nat):0<pw3 k:=by
 have:=Nat.pow_pos (n:=k) (show 0<16777216 by decide)
 simp only [pw3]; omega
theorem So:∀(k:Nat) (v:Int),0≤v→v<pw3 k→nv3 (dg3 k v)=v
 |0,v,h,h'=>by rw [Ku] at h'; simp only [dg3,nv3]; omega
 | k+1,v,h,h'=>by
  rw [Kv] at h'
  have hp:=OF k
  simp only [dg3,nv3]
  rw [So k _ (Int.ediv_nonneg h (by decide)) (Int.ediv_lt_of_lt_mul (by decide) (by rw [Int.mul_comm]; exact h'))]
  exact Int.emod_add_mul_ediv v 16777216
theorem IX:∀ {xs:List Int},dig3 xs→0≤nv3 xs
 |[],_=>by simp [nv3]
 | x::r,h=>by
  have h1:=h x (by simp)
  have h2:=IX (xs:=r) fun y hy=>h y (by simp [hy])
  simp only [nv3]; omega
theorem OI:∀ {xs:List Int},dig3 xs→nv3 xs<pw3 xs.length
 |[],_=>by simp [nv3,Ku]
 | x::r,h=>by
  have h1:=h x (by simp)
  have h2:=OI (xs:=r) fun y hy=>h y (by simp [hy])
  simp only [nv3,List.length_cons,Kv]; omega
theorem Mx:∀(xs ys:List Int),nv3 (xs++ys)=nv3 xs+pw3 xs.length*nv3 ys
 |[],ys=>by simp [nv3,Ku]
 | x::r,ys=>by
  simp only [List.cons_append,nv3,Mx r ys,List.length_cons,Kv,Int.mul_add,Int.mul_assoc]
  omega
theorem J8 {xs:List Int} (h:dig3 xs) (o l:Nat):dig3 (seg xs o l):=fun x hx=>h x (List.mem_of_mem_drop (List.mem_of_mem_take hx))
theorem M6:∀(q n:Nat) (v:Int) (r:Nat),0≤v→v<p8 (3*q+r)→r≤3→(dg3 n v).getD q 0<p8 r
 |q,0,v,r,_,_,_=>by have:=Hk r; simpa [dg3] using this
 | 0,n+1,v,r,h0,h,_=>by
  rw [Nat.mul_zero,Nat.zero_add] at h
  simp only [dg3,List.getD_cons_zero]
  omega
 | q+1,n+1,v,r,h0,h,hr=>by
  rw [show 3*(q+1)+r=3+(3*q+r) from by omega,LZ] at h
  have h4:p8 3=16777216:=by decide
  rw [h4] at h
  simp only [dg3,List.getD_cons_succ]
  exact M6 q n _ r (by omega) (by omega) hr
theorem Qi:∀(q n:Nat) (v:Int) (r:Nat) (b:Int),q<n→r<3→0≤v→v<p8 (3*q+r)→0≤b→b<256→dg3 n (v+p8 (3*q+r)*b)=(dg3 n v).set q ((dg3 n v).getD q 0+b*p8 r)
 |q,0,v,r,b,h,_,_,_,_,_=>by omega
 | 0,n+1,v,r,b,_,hr,h0,h,hb,hb'=>by
  rw [Nat.mul_zero,Nat.zero_add] at h ⊢
  have hp:=Hk r
  have h3:p8 r*b≤p8 r*255:=Int.mul_le_mul_of_nonneg_left (by omega) (by omega)
  have h5:0≤p8 r*b:=Int.mul_nonneg (by omega) hb
  have h4:p8 r≤65536:=Int.le_trans (HA (show r≤2 by omega)) (by decide)
  have e1:(v+p8 r*b)%16777216=v+p8 r*b:=Int.emod_eq_of_lt (by omega) (by omega)
  have e2:(v+p8 r*b)/16777216=0:=Int.ediv_eq_zero_of_lt (by omega) (by omega)
  have e3:v%16777216=v:=Int.emod_eq_of_lt h0 (by omega)
  have e4:v/16777216=0:=Int.ediv_eq_zero_of_lt h0 (by omega)
  simp only [dg3,e1,e2,e3,e4,List.set_cons_zero,List.getD_cons_zero,Int.mul_comm b]
 | q +1,n+1,v,r,b,hq,hr,h0,h,hb,hb'=>by
  have e:p8 (3*(q+1)+r)=16777216*p8 (3*q+r):=by
   rw [show 3*(q+1)+r=3+(3*q+r) from by omega,LZ]; rfl
  rw [e] at h ⊢
  have e1:(v+16777216*p8 (3*q+r)*b)%16777216=v%16777216:=by rw [Int.mul_assoc]; omega
  have e2:(v+16777216*p8 (3*q+r)*b)/16777216=v/16777216+p8 (3*q+r)*b:=by rw [Int.mul_assoc]; omega
  simp only [dg3,e1,e2,List.set_cons_succ,List.getD_cons_succ]
  rw [Qi q n (v/16777216) r b (by omega) hr (by omega) (by omega) hb hb']
theorem Kx (k:Nat):p8 (3*k)=pw3 k:=by simp only [p8,pw3,Nat.pow_mul]
theorem Pd:∀n,dg3 n 0=List.replicate n 0
 |0=>rfl
 |n+1=>by simp [dg3,Pd n,List.replicate_succ]
end Go.Proofs.YtphlckkbihmlnaaGreatDoor.G
end
section
namespace Go.Proofs.YtphlckkbihmlnaaGreatDoor.G
open Go Go.Proofs RX
abbrev wdg.st (s:ByteArray) (n:Nat) (m:Nat) (i:Int) (out:List Int) (ty:TypeId) (nx:Nat):St:=⟨gbuild [(0,.string s),(3,.slice (some ⟨80,0,none⟩) n m),(4,.int .i64 i)] 0 38,[(80,.is .i64 out ty)],nx⟩
theorem wdg.rnd (s:ByteArray) (n:Nat) (m:Nat) (i:Int) (out:List Int) (ty:TypeId) (nx:Nat):exec Tryz.prog ⟨[],[],[]⟩ [] (hs Tryz.prog ⟨[],[],[]⟩ 3).lf (hs Tryz.prog ⟨[],[],[]⟩ 3).cf (Ag Tryz.f88 0) (wdg.st s n m i out ty nx) (pick 38 [0,3,4] [80])=
 bif decide (i<((s.size:Nat):Int)) then bif decide (0≤i64.wrap (i.tdiv 3))&&decide (i64.wrap (i.tdiv 3)<((n:Nat):Int)) then bif (0+(i64.wrap (i.tdiv 3)).toNat*1).blt out.length then bif decide (0≤i64.wrap (i64.wrap (((s.size:Nat):Int)-1)-i))&&decide (i64.wrap (i64.wrap (((s.size:Nat):Int)-1)-i)<((s.size:Nat):Int)) then bif decide (0≤i64.wrap (8*i.tmod 3)) then bif decide (0≤i64.wrap (i.tdiv 3))&&decide (i64.wrap (i.tdiv 3)<((n:Nat):Int)) then bif (0+(i64.wrap (i.tdiv 3)).toNat*1).blt out.length then lk [0,3,4] [80] .normal (wdg.st s n m (i64.wrap (i+1)) (out.set (0+(i64.wrap (i.tdiv 3)).toNat*1) (i64.wrap (out.getD (0+(i64.wrap (i.tdiv 3)).toNat*1) 0+i64.wrap (i64.wrap (((s.data.toList.getD (i64.wrap (i64.wrap (((s.size:Nat):Int)-1)-i)).toNat 0).toNat:Nat):Int)*2^min (i64.wrap (8*i.tmod 3)).toNat i64.bits)))) ty nx) else none else none else none else none else none else none else lk [0,3,4] [80] (.exit 0) (wdg.st s n m i out ty nx):=by kernel_rfl
theorem wdg.step0 {N:Nat→Prop} (s:ByteArray) (n:Nat) (m:Nat) (i:Int) (out:List Int) (ty:TypeId) (nx:Nat) (h0:(decide (i<((s.size:Nat):Int)))=true) (h1:(decide (0≤i64.wrap (i.tdiv 3))&&decide (i64.wrap (i.tdiv 3)<((n:Nat):Int)))=true) (h2:((0+(i64.wrap (i.tdiv 3)).toNat*1).blt out.length)=true) (h3:(decide (0≤i64.wrap (i64.wrap (((s.size:Nat):Int)-1)-i))&&decide (i64.wrap (i64.wrap (((s.size:Nat):Int)-1)-i)<((s.size:Nat):Int)))=true) (h4:(decide (0≤i64.wrap (8*i.tmod 3)))=true) (h5:(decide (0≤i64.wrap (i.tdiv 3))&&decide (i64.wrap (i.tdiv 3)<((n:Nat):Int)))=true) (h6:((0+(i64.wrap (i.tdiv 3)).toNat*1).blt out.length)=true) {x:X} {S':St} (ih:Lq Tryz.prog N (Ag Tryz.f88 0) (wdg.st s n m (i64.wrap (i+1)) (out.set (0+(i64.wrap (i.tdiv 3)).toNat*1) (i64.wrap (out.getD (0+(i64.wrap (i.tdiv 3)).toNat*1) 0+i64.wrap (i64.wrap (((s.data.toList.getD (i64.wrap (i64.wrap (((s.size:Nat):Int)-1)-i)).toNat 0).toNat:Nat):Int)*2^min (i64.wrap (8*i.tmod 3)).toNat i64.bits)))) ty nx) x (S')):Lq Tryz.prog N (Ag Tryz.f88 0) (wdg.st s n m i out ty nx) x (S'):=
 .toK (f:=3) ⟨Ac,Ai,Ad,Ah⟩ Be ((((((((wdg.rnd s n m i out ty nx).trans (ct h0)).trans (ct h1)).trans (ct h2)).trans (ct h3)).trans (ct h4)).trans (ct h5)).trans (ct h6)) rfl rfl ih
theorem wdg.stop1 {N:Nat→Prop} (s:ByteArray) (n:Nat) (m:Nat) (i:Int) (out:List Int) (ty:TypeId) (nx:Nat) (h0:(decide (i<((s.size:Nat):Int)))=false):Lq Tryz.prog N (Ag Tryz.f88 0) (wdg.st s n m i out ty nx) (.exit 0) (wdg.st s n m i out ty nx):=
 .endK (f:=3) ⟨Ac,Ai,Ad,Ah⟩ Be ((wdg.rnd s n m i out ty nx).trans (cf h0)) (fun q=>by cases q) rfl rfl
theorem wdg.enter {N:Nat→Prop} {S S':St} {x:X} {s:ByteArray} {n:Nat} {m:Nat} {i:Int} {out:List Int} {ty:TypeId} (h0:RX.nth S.tmps 0= .string s) (h3:RX.nth S.tmps 3= .slice (some ⟨80,0,none⟩) n m) (h4:RX.nth S.tmps 4= .int .i64 i) (g80:RX.look S.heap 80=some (.is .i64 out ty)) (hl:S.tmps.length=38) (hk:Lq Tryz.prog N (Ag Tryz.f88 0) (wdg.st s n m i out ty S.nxt) x (S')):Lq Tryz.prog N (Ag Tryz.f88 0) (S) x (S'):=by
 obtain ⟨T,H,n⟩:=S
 exact .enter (fun h=>Gr hl (.cons ⟨h0,bnth h h0⟩ (.cons ⟨h3,bnth h h3⟩ (.cons ⟨h4,bnth h h4⟩ .nil))) (.cons ⟨g80,bname h g80,rfl⟩ .nil)) hk
def wdg.ok (s:ByteArray) (n:Nat) (i:Int) (out:List Int):Bool:=decide (i=0)&&(decide (out=List.replicate n 0)&&(Nat.ble s.size (3*n)&&Nat.ble s.size 1152921504606846976))
def wdg.lt (s:ByteArray) (n m:Nat) (i:Int) (out:List Int) (ty:TypeId) (nx:Nat):LT:= .got (wdg.ok s n i out) (.exit 0) (wdg.st s n m (s.size:Int) (dg3 n (bv s.data.toList)) ty nx)
theorem PH (r:Nat) (h:r<3):(2:Int)^min (i64.wrap (8*(r:Int))).toNat i64.bits=p8 r:=by
 have:r=0∨r=1∨r=2:=by omega
 rcases this with rfl|rfl|rfl<;>rfl
theorem p8_lt {r:Nat} (h:r<3):p8 r≤65536:=Int.le_trans (HA (show r≤2 by omega)) (by decide)
theorem wdg.go {N:Nat→Prop} (s:ByteArray) (n m:Nat) (ty:TypeId) (nx:Nat) (h1:s.size≤3*n) (h2:s.size≤1152921504606846976):∀(d k:Nat),k+d=s.size→Lq Tryz.prog N (Ag Tryz.f88 0) (wdg.st s n m (k:Int) (dg3 n (lv (s.data.toList.reverse.take k))) ty nx) (.exit 0) (wdg.st s n m (s.size:Int) (dg3 n (bv s.data.toList)) ty nx)
 | 0,k,h=>by
  have e:k=s.size:=by omega
  subst e
  rw [List.take_of_length_le (by rw [List.length_reverse]; exact Nat.le_refl _)]
  exact wdg.stop1 s n m _ _ ty nx (dfalse (by omega))
 | d +1,k,h=>by
  obtain ⟨q,r,hr,rfl⟩:∃q r,r<3∧k=3*q+r:=⟨k/3,k%3,by omega,by omega⟩
  have hs:s.data.toList.length=s.size:=rfl
  have hq:(((3*q+r:Nat):Int)).tdiv 3=(q:Int):=by rw [Int.tdiv_eq_ediv_of_nonneg (by omega)]; omega
  have hm:(((3*q+r:Nat):Int)).tmod 3=(r:Int):=by rw [Int.tmod_eq_emod_of_nonneg (by omega)]; omega
  have w1:i64.wrap (q:Int)=(q:Int):=w64 (by omega) (by omega)
  have w2:i64.wrap (((s.size:Nat):Int)-1)=(s.size:Int)-1:=w64 (by omega) (by omega)
  have w3:i64.wrap ((s.size:Int)-1-((3*q+r:Nat):Int))=(d:Int):=by rw [w64 (by omega) (by omega)]; omega
  have w4:i64.wrap (((3*q+r:Nat):Int)+1)=((3*q+r+1:Nat):Int):=by rw [w64 (by omega) (by omega)]; omega
  have hw:0≤i64.wrap (8*(r:Int)):=by rw [w64 (by omega) (by omega)]; omega
  have hl:=JP n (lv (s.data.toList.reverse.take (3*q+r)))
  have iq:0+((q:Int)).toNat*1=q:=by simp
  have b2:(0+((q:Int)).toNat*1).blt (dg3 n (lv (s.data.toList.reverse.take (3*q+r)))).length=true:=Fi (by rw [hl,iq]; omega)
  have b1:(decide (0≤(q:Int))&&decide ((q:Int)<((n:Nat):Int)))=true:=dtrue2 (by omega) (by omega)
  refine wdg.step0 s n m _ _ ty nx (dtrue (by omega)) (by rw [hq,w1]; exact b1) (by rw [hq,w1]; exact b2) (by rw [w2,w3]; exact dtrue2 (by omega) (by omega)) (by rw [hm]; exact dtrue hw) (by rw [hq,w1]; exact b1) (by rw [hq,w1]; exact b2) ?_
  rw [hq,hm,w1,w2,w3,w4,iq,PH r hr]
  have ht:s.data.toList.reverse.take (3*q+r+1)=s.data.toList.reverse.take (3*q+r)++[s.data.toList.getD d 0]:=by
   rw [List.take_add_one,List.getElem?_reverse (by omega),show s.data.toList.length-1-(3*q+r)=d by omega,List.getD_eq_getElem?_getD,List.getElem?_eq_getElem (by omega)]
   rfl
  have hlen:(s.data.toList.reverse.take (3*q+r)).length=3*q+r:=by rw [List.length_take,List.length_reverse]; omega
  have hv:lv (s.data.toList.reverse.take (3*q+r+1))=lv (s.data.toList.reverse.take (3*q+r))+p8 (3*q+r)*((s.data.toList.getD d 0).toNat:Int):=by
   rw [ht,OK,hlen]
  have hb:(s.data.toList.getD d 0).toNat<256:=(s.data.toList.getD d 0).toNat_lt
  have hlt:=RB (s.data.toList.reverse.take (3*q+r))
  rw [hlen] at hlt
  have h0:=K4 (s.data.toList.reverse.take (3*q+r))
  have es:=Qi q n (lv (s.data.toList.reverse.take (3*q+r))) r ((s.data.toList.getD d 0).toNat:Int) (by omega) hr h0 hlt (by omega) (by omega)
  have hg:=M6 q n (lv (s.data.toList.reverse.take (3*q+r))) r h0 hlt (by omega)
  have hg0:0≤(dg3 n (lv (s.data.toList.reverse.take (3*q+r)))).getD q 0:=by
   rw [List.getD_eq_getElem?_getD,List.getElem?_eq_getElem (by rw [hl]; omega)]
   exact (OY _ _ _ (List.getElem_mem _)).1
  have hp:=p8_lt hr
  have hp0:=Hk r
  have m0:0≤((s.data.toList.getD d 0).toNat:Int)*p8 r:=Int.mul_nonneg (by omega) (by omega)
  have m1:((s.data.toList.getD d 0).toNat:Int)*p8 r≤255*65536:=Int.mul_le_mul (by omega) hp (by omega) (by omega)
  have w5:i64.wrap (((s.data.toList.getD d 0).toNat:Nat):Int)=((s.data.toList.getD d 0).toNat:Int):=w64 (by omega) (by omega)
  rw [show (((d:Nat):Int)).toNat=d by simp,w5,w64 (n:=((s.data.toList.getD d 0).toNat:Int)*p8 r) (by omega) (by omega),w64 (by omega) (by omega),←es,←hv]
  exact wdg.go s n m ty nx h1 h2 d (3*q+r+1) (by omega)
theorem wdg.lp {N:Nat→Prop} (s:ByteArray) (n m:Nat) (i:Int) (out:List Int) (ty:TypeId) (nx:Nat) {x:X} {S':St} (h:(wdg.lt s n m i out ty nx).at=some (x,S')):Lq Tryz.prog N (Ag Tryz.f88 0) (wdg.st s n m i out ty nx) x S':=by
 obtain ⟨h1,rfl,rfl⟩:=Fw h
 simp only [wdg.ok,zB,Nat.ble_eq,zD] at h1
 obtain ⟨rfl,rfl,h2,h3⟩:=h1
 have:=wdg.go (N:=N) s n m ty nx h2 h3 s.size 0 (by omega)
 rw [show lv (s.data.toList.reverse.take 0)=0 from rfl,Pd] at this
 exact this
def wdg.t:LSpec:=fun S=>match RX.nth S.tmps 0,RX.nth S.tmps 3,RX.nth S.tmps 4,RX.look S.heap 80 with
 | .string s,.slice (some ⟨80,0,none⟩) n m,.int .i64 i,some (.is .i64 out ty)=>bif Nat.beq S.tmps.length 38 then some (wdg.lt s n m i out ty S.nxt) else none
 |_,_,_,_=>none
theorem wdg.lok {N:Nat→Prop} :LOKn Tryz.prog N (Ag Tryz.f88 0) (wdg.t):=by
 refine Ge fun S lt x S' ht hat=> ?_
 unfold wdg.t at ht
 split at ht
 ·rename_i s n m i out ty h0 h3 h4 g80
  cases hb:Nat.beq S.tmps.length 38 with
  |false=>rw [hb] at ht; cases ht
  | true=>
   rw [hb] at ht
   injection ht with ht
   subst ht
   have hb:=zE hb
   exact wdg.enter h0 h3 h4 g80 hb (wdg.lp _ _ _ _ _ _ _ hat)
 ·cases ht
end Go.Proofs.YtphlckkbihmlnaaGreatDoor.G
end
