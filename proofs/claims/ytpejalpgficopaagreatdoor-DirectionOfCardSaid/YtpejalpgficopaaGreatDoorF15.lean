/- A part of what the law's proof leans on. PACKED BY pack.py of this repo. -/
import Derived.Test.YtpejalpgficopaaGreatDoorF14
set_option linter.unusedVariables false
set_option linter.unusedSimpArgs false
set_option linter.unusedSectionVars false
set_option linter.defProp false
set_option maxRecDepth 100000
open Go.IntKind (i64 u64 u32)
section
namespace Go.Proofs.YtpejalpgficopaaGreatDoor.G
open Go Go.Proofs Go.RowKit RX
section
variable {R:Type} (DK:TF10 (TY5)) (DJ:TF10 Bool) (DX:TF10 (Bool×ByteArray×Bool×ByteArray×Bool×ByteArray×Bool×ByteArray×Bool×ByteArray×Int)) (DT:TF10 Bool) (BE:Int→(TY5)) (BD:Int→Bool) (BJ:TF10 (Int)) (BI:TF10 Bool) (CS:TF5 (Int)) (CR:TF5 Bool) (A7:Bool) (AA:ByteArray) (AG:Bool) (AF:ByteArray) (AE:Bool) (AD:ByteArray) (AI:Bool) (AH:ByteArray) (AK:Bool) (AJ:ByteArray) (AC:Bool) (AB:ByteArray) (AM:Bool) (AL:ByteArray) (AQ:Bool) (AP:ByteArray) (AS:Bool) (AR:ByteArray) (AO:Bool) (AN:ByteArray)
noncomputable def Be.K (k:Int×Int×Int→Option R):Option R:=
 let t0:=DJ A7 AA AG AF AE AD AI AH AK AJ A7 AA AG AF AE AD AI AH AK AJ
 bif t0 then
 let t1:=DK A7 AA AG AF AE AD AI AH AK AJ A7 AA AG AF AE AD AI AH AK AJ
 let t2:=DT t1.1 t1.2.1 t1.2.2.1 t1.2.2.2.1 t1.2.2.2.2.1 t1.2.2.2.2.2.1 t1.2.2.2.2.2.2.1 t1.2.2.2.2.2.2.2.1 t1.2.2.2.2.2.2.2.2.1 t1.2.2.2.2.2.2.2.2.2 AC AB AM AL AQ AP AS AR AO AN
 bif t2 then
 let t3:=DX t1.1 t1.2.1 t1.2.2.1 t1.2.2.2.1 t1.2.2.2.2.1 t1.2.2.2.2.2.1 t1.2.2.2.2.2.2.1 t1.2.2.2.2.2.2.2.1 t1.2.2.2.2.2.2.2.2.1 t1.2.2.2.2.2.2.2.2.2 AC AB AM AL AQ AP AS AR AO AN
 bif t3.2.2.2.2.2.2.2.2.2.2 !=0 then k (0,0,t3.2.2.2.2.2.2.2.2.2.2) else
 let t4:=BD 281474976710656
 bif t4 then
 let t5:=BE 281474976710656
 let t6:=DJ t3.1 t3.2.1 t3.2.2.1 t3.2.2.2.1 t3.2.2.2.2.1 t3.2.2.2.2.2.1 t3.2.2.2.2.2.2.1 t3.2.2.2.2.2.2.2.1 t3.2.2.2.2.2.2.2.2.1 t3.2.2.2.2.2.2.2.2.2.1 t5.1 t5.2.1 t5.2.2.1 t5.2.2.2.1 t5.2.2.2.2.1 t5.2.2.2.2.2.1 t5.2.2.2.2.2.2.1 t5.2.2.2.2.2.2.2.1 t5.2.2.2.2.2.2.2.2.1 t5.2.2.2.2.2.2.2.2.2
 bif t6 then
 let t7:=DK t3.1 t3.2.1 t3.2.2.1 t3.2.2.2.1 t3.2.2.2.2.1 t3.2.2.2.2.2.1 t3.2.2.2.2.2.2.1 t3.2.2.2.2.2.2.2.1 t3.2.2.2.2.2.2.2.2.1 t3.2.2.2.2.2.2.2.2.2.1 t5.1 t5.2.1 t5.2.2.1 t5.2.2.2.1 t5.2.2.2.2.1 t5.2.2.2.2.2.1 t5.2.2.2.2.2.2.1 t5.2.2.2.2.2.2.2.1 t5.2.2.2.2.2.2.2.2.1 t5.2.2.2.2.2.2.2.2.2
 bif dqOk {fO:=BE,pO:=BD,fC:=BJ,pC:=BI} {n0:=t7.1,s0:=t7.2.1,n1:=t7.2.2.1,s1:=t7.2.2.2.1,n2:=t7.2.2.2.2.1,s2:=t7.2.2.2.2.2.1,n3:=t7.2.2.2.2.2.2.1,s3:=t7.2.2.2.2.2.2.2.1,n4:=t7.2.2.2.2.2.2.2.2.1,s4:=t7.2.2.2.2.2.2.2.2.2} then
 let t8:=BD (i64.wrap (dqb (dqT {fO:=BE,pO:=BD,fC:=BJ,pC:=BI} {n0:=t7.1,s0:=t7.2.1,n1:=t7.2.2.1,s1:=t7.2.2.2.1,n2:=t7.2.2.2.2.1,s2:=t7.2.2.2.2.2.1,n3:=t7.2.2.2.2.2.2.1,s3:=t7.2.2.2.2.2.2.2.1,n4:=t7.2.2.2.2.2.2.2.2.1,s4:=t7.2.2.2.2.2.2.2.2.2}) 32 0*dqb (dqT {fO:=BE,pO:=BD,fC:=BJ,pC:=BI} {n0:=t7.1,s0:=t7.2.1,n1:=t7.2.2.1,s1:=t7.2.2.2.1,n2:=t7.2.2.2.2.1,s2:=t7.2.2.2.2.2.1,n3:=t7.2.2.2.2.2.2.1,s3:=t7.2.2.2.2.2.2.2.1,n4:=t7.2.2.2.2.2.2.2.2.1,s4:=t7.2.2.2.2.2.2.2.2.2}) 32 0))
 bif t8 then
 let t9:=BE (i64.wrap (dqb (dqT {fO:=BE,pO:=BD,fC:=BJ,pC:=BI} {n0:=t7.1,s0:=t7.2.1,n1:=t7.2.2.1,s1:=t7.2.2.2.1,n2:=t7.2.2.2.2.1,s2:=t7.2.2.2.2.2.1,n3:=t7.2.2.2.2.2.2.1,s3:=t7.2.2.2.2.2.2.2.1,n4:=t7.2.2.2.2.2.2.2.2.1,s4:=t7.2.2.2.2.2.2.2.2.2}) 32 0*dqb (dqT {fO:=BE,pO:=BD,fC:=BJ,pC:=BI} {n0:=t7.1,s0:=t7.2.1,n1:=t7.2.2.1,s1:=t7.2.2.2.1,n2:=t7.2.2.2.2.1,s2:=t7.2.2.2.2.2.1,n3:=t7.2.2.2.2.2.2.1,s3:=t7.2.2.2.2.2.2.2.1,n4:=t7.2.2.2.2.2.2.2.2.1,s4:=t7.2.2.2.2.2.2.2.2.2}) 32 0))
 let t10:=BI t9.1 t9.2.1 t9.2.2.1 t9.2.2.2.1 t9.2.2.2.2.1 t9.2.2.2.2.2.1 t9.2.2.2.2.2.2.1 t9.2.2.2.2.2.2.2.1 t9.2.2.2.2.2.2.2.2.1 t9.2.2.2.2.2.2.2.2.2 t7.1 t7.2.1 t7.2.2.1 t7.2.2.2.1 t7.2.2.2.2.1 t7.2.2.2.2.2.1 t7.2.2.2.2.2.2.1 t7.2.2.2.2.2.2.2.1 t7.2.2.2.2.2.2.2.2.1 t7.2.2.2.2.2.2.2.2.2
 bif t10 then
 let t11:=BJ t9.1 t9.2.1 t9.2.2.1 t9.2.2.2.1 t9.2.2.2.2.1 t9.2.2.2.2.2.1 t9.2.2.2.2.2.2.1 t9.2.2.2.2.2.2.2.1 t9.2.2.2.2.2.2.2.2.1 t9.2.2.2.2.2.2.2.2.2 t7.1 t7.2.1 t7.2.2.1 t7.2.2.2.1 t7.2.2.2.2.1 t7.2.2.2.2.2.1 t7.2.2.2.2.2.2.1 t7.2.2.2.2.2.2.2.1 t7.2.2.2.2.2.2.2.2.1 t7.2.2.2.2.2.2.2.2.2
 bif decide (t11<0) then
 let t12:=CR A7 AA AG AF AE AD AI AH AK AJ
 bif t12 then
 let t13:=CS A7 AA AG AF AE AD AI AH AK AJ
 bif decide (t13<0) then bif decide (i64.wrap (0-i64.wrap (dqb (dqT {fO:=BE,pO:=BD,fC:=BJ,pC:=BI} {n0:=t7.1,s0:=t7.2.1,n1:=t7.2.2.1,s1:=t7.2.2.2.1,n2:=t7.2.2.2.2.1,s2:=t7.2.2.2.2.2.1,n3:=t7.2.2.2.2.2.2.1,s3:=t7.2.2.2.2.2.2.2.1,n4:=t7.2.2.2.2.2.2.2.2.1,s4:=t7.2.2.2.2.2.2.2.2.2}) 32 0+1))≤i64.wrap (0-dqb (dqT {fO:=BE,pO:=BD,fC:=BJ,pC:=BI} {n0:=t7.1,s0:=t7.2.1,n1:=t7.2.2.1,s1:=t7.2.2.2.1,n2:=t7.2.2.2.2.1,s2:=t7.2.2.2.2.2.1,n3:=t7.2.2.2.2.2.2.1,s3:=t7.2.2.2.2.2.2.2.1,n4:=t7.2.2.2.2.2.2.2.2.1,s4:=t7.2.2.2.2.2.2.2.2.2}) 32 0)) then bif decide (i64.wrap (0-i64.wrap (dqb (dqT {fO:=BE,pO:=BD,fC:=BJ,pC:=BI} {n0:=t7.1,s0:=t7.2.1,n1:=t7.2.2.1,s1:=t7.2.2.2.1,n2:=t7.2.2.2.2.1,s2:=t7.2.2.2.2.2.1,n3:=t7.2.2.2.2.2.2.1,s3:=t7.2.2.2.2.2.2.2.1,n4:=t7.2.2.2.2.2.2.2.2.1,s4:=t7.2.2.2.2.2.2.2.2.2}) 32 0+1))≥ -1073741824) then bif !decide (i64.wrap (0-dqb (dqT {fO:=BE,pO:=BD,fC:=BJ,pC:=BI} {n0:=t7.1,s0:=t7.2.1,n1:=t7.2.2.1,s1:=t7.2.2.2.1,n2:=t7.2.2.2.2.1,s2:=t7.2.2.2.2.2.1,n3:=t7.2.2.2.2.2.2.1,s3:=t7.2.2.2.2.2.2.2.1,n4:=t7.2.2.2.2.2.2.2.2.1,s4:=t7.2.2.2.2.2.2.2.2.2}) 32 0)≤1073741824) then k (0,0,3) else k (i64.wrap (0-i64.wrap (dqb (dqT {fO:=BE,pO:=BD,fC:=BJ,pC:=BI} {n0:=t7.1,s0:=t7.2.1,n1:=t7.2.2.1,s1:=t7.2.2.2.1,n2:=t7.2.2.2.2.1,s2:=t7.2.2.2.2.2.1,n3:=t7.2.2.2.2.2.2.1,s3:=t7.2.2.2.2.2.2.2.1,n4:=t7.2.2.2.2.2.2.2.2.1,s4:=t7.2.2.2.2.2.2.2.2.2}) 32 0+1)),i64.wrap (0-dqb (dqT {fO:=BE,pO:=BD,fC:=BJ,pC:=BI} {n0:=t7.1,s0:=t7.2.1,n1:=t7.2.2.1,s1:=t7.2.2.2.1,n2:=t7.2.2.2.2.1,s2:=t7.2.2.2.2.2.1,n3:=t7.2.2.2.2.2.2.1,s3:=t7.2.2.2.2.2.2.2.1,n4:=t7.2.2.2.2.2.2.2.2.1,s4:=t7.2.2.2.2.2.2.2.2.2}) 32 0),0) else k (0,0,3) else k (0,0,3) else bif decide (dqb (dqT {fO:=BE,pO:=BD,fC:=BJ,pC:=BI} {n0:=t7.1,s0:=t7.2.1,n1:=t7.2.2.1,s1:=t7.2.2.2.1,n2:=t7.2.2.2.2.1,s2:=t7.2.2.2.2.2.1,n3:=t7.2.2.2.2.2.2.1,s3:=t7.2.2.2.2.2.2.2.1,n4:=t7.2.2.2.2.2.2.2.2.1,s4:=t7.2.2.2.2.2.2.2.2.2}) 32 0≤i64.wrap (dqb (dqT {fO:=BE,pO:=BD,fC:=BJ,pC:=BI} {n0:=t7.1,s0:=t7.2.1,n1:=t7.2.2.1,s1:=t7.2.2.2.1,n2:=t7.2.2.2.2.1,s2:=t7.2.2.2.2.2.1,n3:=t7.2.2.2.2.2.2.1,s3:=t7.2.2.2.2.2.2.2.1,n4:=t7.2.2.2.2.2.2.2.2.1,s4:=t7.2.2.2.2.2.2.2.2.2}) 32 0+1)) then
 bif decide (dqb (dqT {fO:=BE,pO:=BD,fC:=BJ,pC:=BI} {n0:=t7.1,s0:=t7.2.1,n1:=t7.2.2.1,s1:=t7.2.2.2.1,n2:=t7.2.2.2.2.1,s2:=t7.2.2.2.2.2.1,n3:=t7.2.2.2.2.2.2.1,s3:=t7.2.2.2.2.2.2.2.1,n4:=t7.2.2.2.2.2.2.2.2.1,s4:=t7.2.2.2.2.2.2.2.2.2}) 32 0≥ -1073741824) then bif !decide (i64.wrap (dqb (dqT {fO:=BE,pO:=BD,fC:=BJ,pC:=BI} {n0:=t7.1,s0:=t7.2.1,n1:=t7.2.2.1,s1:=t7.2.2.2.1,n2:=t7.2.2.2.2.1,s2:=t7.2.2.2.2.2.1,n3:=t7.2.2.2.2.2.2.1,s3:=t7.2.2.2.2.2.2.2.1,n4:=t7.2.2.2.2.2.2.2.2.1,s4:=t7.2.2.2.2.2.2.2.2.2}) 32 0+1)≤1073741824) then k (0,0,3) else k (dqb (dqT {fO:=BE,pO:=BD,fC:=BJ,pC:=BI} {n0:=t7.1,s0:=t7.2.1,n1:=t7.2.2.1,s1:=t7.2.2.2.1,n2:=t7.2.2.2.2.1,s2:=t7.2.2.2.2.2.1,n3:=t7.2.2.2.2.2.2.1,s3:=t7.2.2.2.2.2.2.2.1,n4:=t7.2.2.2.2.2.2.2.2.1,s4:=t7.2.2.2.2.2.2.2.2.2}) 32 0,i64.wrap (dqb (dqT {fO:=BE,pO:=BD,fC:=BJ,pC:=BI} {n0:=t7.1,s0:=t7.2.1,n1:=t7.2.2.1,s1:=t7.2.2.2.1,n2:=t7.2.2.2.2.1,s2:=t7.2.2.2.2.2.1,n3:=t7.2.2.2.2.2.2.1,s3:=t7.2.2.2.2.2.2.2.1,n4:=t7.2.2.2.2.2.2.2.2.1,s4:=t7.2.2.2.2.2.2.2.2.2}) 32 0+1),0) else k (0,0,3) else k (0,0,3) else none else
 let t14:=CR A7 AA AG AF AE AD AI AH AK AJ
 bif t14 then
 let t15:=CS A7 AA AG AF AE AD AI AH AK AJ
 bif decide (t15<0) then bif decide (i64.wrap (0-dqb (dqT {fO:=BE,pO:=BD,fC:=BJ,pC:=BI} {n0:=t7.1,s0:=t7.2.1,n1:=t7.2.2.1,s1:=t7.2.2.2.1,n2:=t7.2.2.2.2.1,s2:=t7.2.2.2.2.2.1,n3:=t7.2.2.2.2.2.2.1,s3:=t7.2.2.2.2.2.2.2.1,n4:=t7.2.2.2.2.2.2.2.2.1,s4:=t7.2.2.2.2.2.2.2.2.2}) 32 0)≤i64.wrap (0-dqb (dqT {fO:=BE,pO:=BD,fC:=BJ,pC:=BI} {n0:=t7.1,s0:=t7.2.1,n1:=t7.2.2.1,s1:=t7.2.2.2.1,n2:=t7.2.2.2.2.1,s2:=t7.2.2.2.2.2.1,n3:=t7.2.2.2.2.2.2.1,s3:=t7.2.2.2.2.2.2.2.1,n4:=t7.2.2.2.2.2.2.2.2.1,s4:=t7.2.2.2.2.2.2.2.2.2}) 32 0)) then bif decide (i64.wrap (0-dqb (dqT {fO:=BE,pO:=BD,fC:=BJ,pC:=BI} {n0:=t7.1,s0:=t7.2.1,n1:=t7.2.2.1,s1:=t7.2.2.2.1,n2:=t7.2.2.2.2.1,s2:=t7.2.2.2.2.2.1,n3:=t7.2.2.2.2.2.2.1,s3:=t7.2.2.2.2.2.2.2.1,n4:=t7.2.2.2.2.2.2.2.2.1,s4:=t7.2.2.2.2.2.2.2.2.2}) 32 0)≥ -1073741824) then bif !decide (i64.wrap (0-dqb (dqT {fO:=BE,pO:=BD,fC:=BJ,pC:=BI} {n0:=t7.1,s0:=t7.2.1,n1:=t7.2.2.1,s1:=t7.2.2.2.1,n2:=t7.2.2.2.2.1,s2:=t7.2.2.2.2.2.1,n3:=t7.2.2.2.2.2.2.1,s3:=t7.2.2.2.2.2.2.2.1,n4:=t7.2.2.2.2.2.2.2.2.1,s4:=t7.2.2.2.2.2.2.2.2.2}) 32 0)≤1073741824) then k (0,0,3) else k (i64.wrap (0-dqb (dqT {fO:=BE,pO:=BD,fC:=BJ,pC:=BI} {n0:=t7.1,s0:=t7.2.1,n1:=t7.2.2.1,s1:=t7.2.2.2.1,n2:=t7.2.2.2.2.1,s2:=t7.2.2.2.2.2.1,n3:=t7.2.2.2.2.2.2.1,s3:=t7.2.2.2.2.2.2.2.1,n4:=t7.2.2.2.2.2.2.2.2.1,s4:=t7.2.2.2.2.2.2.2.2.2}) 32 0),i64.wrap (0-dqb (dqT {fO:=BE,pO:=BD,fC:=BJ,pC:=BI} {n0:=t7.1,s0:=t7.2.1,n1:=t7.2.2.1,s1:=t7.2.2.2.1,n2:=t7.2.2.2.2.1,s2:=t7.2.2.2.2.2.1,n3:=t7.2.2.2.2.2.2.1,s3:=t7.2.2.2.2.2.2.2.1,n4:=t7.2.2.2.2.2.2.2.2.1,s4:=t7.2.2.2.2.2.2.2.2.2}) 32 0),0) else k (0,0,3) else k (0,0,3) else bif decide (dqb (dqT {fO:=BE,pO:=BD,fC:=BJ,pC:=BI} {n0:=t7.1,s0:=t7.2.1,n1:=t7.2.2.1,s1:=t7.2.2.2.1,n2:=t7.2.2.2.2.1,s2:=t7.2.2.2.2.2.1,n3:=t7.2.2.2.2.2.2.1,s3:=t7.2.2.2.2.2.2.2.1,n4:=t7.2.2.2.2.2.2.2.2.1,s4:=t7.2.2.2.2.2.2.2.2.2}) 32 0≤dqb (dqT {fO:=BE,pO:=BD,fC:=BJ,pC:=BI} {n0:=t7.1,s0:=t7.2.1,n1:=t7.2.2.1,s1:=t7.2.2.2.1,n2:=t7.2.2.2.2.1,s2:=t7.2.2.2.2.2.1,n3:=t7.2.2.2.2.2.2.1,s3:=t7.2.2.2.2.2.2.2.1,n4:=t7.2.2.2.2.2.2.2.2.1,s4:=t7.2.2.2.2.2.2.2.2.2}) 32 0) then
 bif decide (dqb (dqT {fO:=BE,pO:=BD,fC:=BJ,pC:=BI} {n0:=t7.1,s0:=t7.2.1,n1:=t7.2.2.1,s1:=t7.2.2.2.1,n2:=t7.2.2.2.2.1,s2:=t7.2.2.2.2.2.1,n3:=t7.2.2.2.2.2.2.1,s3:=t7.2.2.2.2.2.2.2.1,n4:=t7.2.2.2.2.2.2.2.2.1,s4:=t7.2.2.2.2.2.2.2.2.2}) 32 0≥ -1073741824) then bif !decide (dqb (dqT {fO:=BE,pO:=BD,fC:=BJ,pC:=BI} {n0:=t7.1,s0:=t7.2.1,n1:=t7.2.2.1,s1:=t7.2.2.2.1,n2:=t7.2.2.2.2.1,s2:=t7.2.2.2.2.2.1,n3:=t7.2.2.2.2.2.2.1,s3:=t7.2.2.2.2.2.2.2.1,n4:=t7.2.2.2.2.2.2.2.2.1,s4:=t7.2.2.2.2.2.2.2.2.2}) 32 0≤1073741824) then k (0,0,3) else k (dqb (dqT {fO:=BE,pO:=BD,fC:=BJ,pC:=BI} {n0:=t7.1,s0:=t7.2.1,n1:=t7.2.2.1,s1:=t7.2.2.2.1,n2:=t7.2.2.2.2.1,s2:=t7.2.2.2.2.2.1,n3:=t7.2.2.2.2.2.2.1,s3:=t7.2.2.2.2.2.2.2.1,n4:=t7.2.2.2.2.2.2.2.2.1,s4:=t7.2.2.2.2.2.2.2.2.2}) 32 0,dqb (dqT {fO:=BE,pO:=BD,fC:=BJ,pC:=BI} {n0:=t7.1,s0:=t7.2.1,n1:=t7.2.2.1,s1:=t7.2.2.2.1,n2:=t7.2.2.2.2.1,s2:=t7.2.2.2.2.2.1,n3:=t7.2.2.2.2.2.2.1,s3:=t7.2.2.2.2.2.2.2.1,n4:=t7.2.2.2.2.2.2.2.2.1,s4:=t7.2.2.2.2.2.2.2.2.2}) 32 0,0) else k (0,0,3) else k (0,0,3) else none else none else none else none else none else none else none else none
theorem Be.run:xfn Tryz.prog ⟨[(110,Cz.sp DK DJ),(113,Db.sp DX DT),(114,Cd.sp BE BD),(115,Cp.sp BJ BI),(116,Bz.sp CS CR)],[(65,Tryz.f65)],[]⟩ [(0,dq.t ⟨BE,BD,BJ,BI⟩)] 60 Tryz.f63 [.agg ⟨[.bool A7,.string AA,.bool AG,.string AF,.bool AE,.string AD,.bool AI,.string AH,.bool AK,.string AJ]⟩,.agg ⟨[.bool AC,.string AB,.bool AM,.string AL,.bool AQ,.string AP,.bool AS,.string AR,.bool AO,.string AN]⟩] []=Be.K DK DJ DX DT BE BD BJ BI CS CR A7 AA AG AF AE AD AI AH AK AJ AC AB AM AL AQ AP AS AR AO AN (fun r=>some (.tuple ⟨[.agg ⟨[.int .i64 r.1,.int .i64 r.2.1]⟩,.int .i64 r.2.2]⟩,[])):=by kernel_rfl
noncomputable def Be.o:Option (Int×Int×Int):=Be.K Cz Cz.pre Db Db.pre Cd Cd.pre Cp Cp.pre Bz Bz.pre A7 AA AG AF AE AD AI AH AK AJ AC AB AM AL AQ AP AS AR AO AN some
noncomputable def Be.pre:Bool:=(Be.o A7 AA AG AF AE AD AI AH AK AJ AC AB AM AL AQ AP AS AR AO AN).isSome
noncomputable def Be:Int×Int×Int:=(Be.o A7 AA AG AF AE AD AI AH AK AJ AC AB AM AL AQ AP AS AR AO AN).getD default
theorem Be.nat (k:Int×Int×Int→Option R):Be.K DK DJ DX DT BE BD BJ BI CS CR A7 AA AG AF AE AD AI AH AK AJ AC AB AM AL AQ AP AS AR AO AN k=(Be.K DK DJ DX DT BE BD BJ BI CS CR A7 AA AG AF AE AD AI AH AK AJ AC AB AM AL AQ AP AS AR AO AN some).bind k:=by
 simp only [Be.K,bcond,Option.bind_some,Option.bind_none]
end
def qcmp (x y:Q):Int:=bif x.ok&&y.ok then (qsub x y).sg else 0
def qmulv (x y:Q):Q:=bif x.ok&&y.ok then qmul x y else Q.zero
def dlh (n:Int) (c s:Bool):Int×Int:=bif c then (bif s then (-(n+1),-n) else (n,n+1)) else (bif s then (-n,-n) else (n,n))
def dchk (r:Int×Int):Int×Int×Int:=bif decide (-1073741824≤r.1)&&decide (r.2≤1073741824) then (r.1,r.2,0) else (0,0,3)
def droot (q:Q):Int:=dqb (fun m=>decide (qcmp (qof (m*m)) q≤0)) 32 0
def dquot (x y:Q):Int×Int×Int:=
 bif (qDiv (qmulv x x) y).2 !=0 then (0,0,(qDiv (qmulv x x) y).2) else
 dchk (dlh (droot (qmulv (qDiv (qmulv x x) y).1 (qof 281474976710656))) (decide (qcmp (qof (droot (qmulv (qDiv (qmulv x x) y).1 (qof 281474976710656))*droot (qmulv (qDiv (qmulv x x) y).1 (qof 281474976710656)))) (qmulv (qDiv (qmulv x x) y).1 (qof 281474976710656))<0)) (decide ((bif x.ok then x.sg else 0)<0)))
theorem IH {T U:Int→Bool} (h:∀m,0≤m→m<2147483648→T m=U m):∀(k:Nat) (n:Int),0≤n→dqb T k n=dqb U k n
 |0,n,_=>rfl
 | k +1,n,h0=>by
  unfold dqb
  have hb:0≤bq (k+1):=by rw [KW]; exact Int.natCast_nonneg _
  by_cases hm:n+bq (k+1)<2147483648
  ·rw [decide_eq_true hm,cond_true,cond_true,h _ (by omega) hm]
   cases U (n+bq (k+1)) with
   |true=>exact IH h k (n+bq (k+1)) (by omega)
   |false=>exact IH h k n h0
  ·rw [decide_eq_false hm,cond_false,cond_false]
   exact IH h k _ h0
theorem IG {T:Int→Bool} :∀(k:Nat) (n:Int),0≤n→n<2147483648→0≤dqb T k n∧dqb T k n<2147483648
 |0,n,h0,h1=>⟨h0,h1⟩
 | k +1,n,h0,h1=>by
  unfold dqb
  have hb:0≤bq (k+1):=by rw [KW]; exact Int.natCast_nonneg _
  by_cases hm:n+bq (k+1)<2147483648
  ·rw [decide_eq_true hm,cond_true]
   cases T (n+bq (k+1)) with
   |true=>exact IG k (n+bq (k+1)) (by omega) hm
   |false=>exact IG k n h0 h1
  ·rw [decide_eq_false hm,cond_false]
   exact IG k _ h0 h1
theorem N7 {j k:Nat} {x y:Q} (hx:x.Bd j) (hy:y.Bd k):(qmulv x y).Bd (j+k+5):=by
 unfold qmulv
 cases ox:x.ok with
 |false=>exact GF _
 | true=>
  cases oy:y.ok with
  |false=>exact GF _
  |true=>exact G7 hx hy ox oy
theorem qdiv_bd {j k:Nat} {x y:Q} (hx:x.Bd j) (hy:y.Bd k) (ox:x.ok=true) (oy:y.ok=true) (hnz:¬(y.c0=0∧y.c1=0∧y.c2=0∧y.c3=0)):(qdiv x y).Bd (j+7*k+35):=by
 have oa:(cj2 y).ok=true:=by rw [Mh,oy]
 have ba:=RK hy
 have ot:=Iy oy
 have bt:(qtwo y).Bd (2*k+5):=(G7 hy ba oy oa).mono (by omega)
 have ob:(cj1 (qtwo y)).ok=true:=by rw [Mi,ot]
 have bb:=RL bt
 have on:=Ou oy
 have bn:(qone y).Bd (4*k+15):=(G7 bt bb ot ob).mono (by omega)
 have oi:=Ov oy hnz
 have bi0:(Q.mk (qone y).d 0 0 0 (qone y).c0).Bd (4*k+15):=⟨bn.d,Bd.zero _,Bd.zero _,Bd.zero _,bn.c0⟩
 have bi:(qinv y).Bd (4*k+15):=MT bi0 (Iz oy hnz)
 have b3:(qmul x (cj2 y)).Bd (j+k+5):=G7 hx ba ox oa
 have b4:(qmul (cj1 (qtwo y)) (qinv y)).Bd (6*k+25):=(G7 bb bi ob oi).mono (by omega)
 exact (G7 b3 b4 (Hz ox oa) (Hz ob oi)).mono (by omega)
theorem nul_iff {y:Q} (h:y.nul=false):¬(y.c0=0∧y.c1=0∧y.c2=0∧y.c3=0):=by
 rintro ⟨h0,h1,h2,h3⟩
 simp [Q.nul,h0,h1,h2,h3] at h
theorem qDiv_bd {j k:Nat} {x y:Q} (hx:x.Bd j) (hy:y.Bd k):(qDiv x y).1.Bd (j+7*k+35):=by
 unfold qDiv
 cases ox:x.ok with
 |false=>exact GF _
 | true=>
  cases oy:y.ok with
  |false=>exact GF _
  | true=>
   cases on:y.nul with
   |true=>exact GF _
   |false=>exact qdiv_bd hx hy ox oy (nul_iff on)
theorem Nt {k:Nat} {n:Int} (h:Bd k n) (hk:1≤k):(qof n).Bd k:=⟨h,Bd.zero _,Bd.zero _,Bd.zero _,Bd.one hk⟩
theorem sq_bd {m:Int} (h:0≤m) (h':m<2147483648):Bd 8 (m*m):=by
 have e:(m.natAbs:Int)=m:=by omega
 have:Bd 4 m:=by
  unfold Bd
  rw [e]
  have:p8 4=4294967296:=by decide
  omega
 exact (this.mul this).mono (by omega)
theorem Be.os {j k:Nat} {x y:Q} (hx:x.Bd j) (hy:y.Bd k) (hk:1≤k) (h:4*j+14*k+200≤PRM):Be.o (dI x.c0).1 (dI x.c0).2 (dI x.c1).1 (dI x.c1).2 (dI x.c2).1 (dI x.c2).2 (dI x.c3).1 (dI x.c3).2 (dI x.d).1 (dI x.d).2 (dI y.c0).1 (dI y.c0).2 (dI y.c1).1 (dI y.c1).2 (dI y.c2).1 (dI y.c2).2 (dI y.c3).1 (dI y.c3).2 (dI y.d).1 (dI y.d).2=some (dquot x y):=by
 have m1:=Cz.ps hx hx (by omega) (by omega)
 have m1':=Cz.es hx hx (by omega) (by omega)
 change _=C5 (qmulv x x) at m1'
 have b1:=N7 hx hx
 have d1:=Db.ps b1 hy hk (by omega)
 have d1':=Db.es b1 hy hk (by omega)
 have b2:=qDiv_bd b1 hy
 have o1:=Cd.ps (n:=281474976710656) (by decide) (by decide)
 have o1':=Cd.es (n:=281474976710656) (by decide) (by decide)
 change _=C5 (qof 281474976710656) at o1'
 have b3:(qof 281474976710656).Bd 7:=Nt (by unfold Bd; decide) (by omega)
 have m2:=Cz.ps b2 b3 (by omega) (by unfold PRM; omega)
 have m2':=Cz.es b2 b3 (by omega) (by unfold PRM; omega)
 change _=C5 (qmulv (qDiv (qmulv x x) y).1 (qof 281474976710656)) at m2'
 have b4:=N7 b2 b3
 simp only [Be.o,Be.K,m1,m1',C5,d1,d1',C51,dquot,o1,o1',m2,m2',cond_true]
 generalize hq:qmulv (qDiv (qmulv x x) y).1 (qof 281474976710656)=q at*
 cases (qDiv (qmulv x x) y).2 !=0 with
 |true=>simp only [cond_true]
 |false=>
 have cm:∀m:Int,0≤m→m<2147483648→Cd.pre (m*m)=true∧Cd (m*m)=C5 (qof (m*m))∧(qof (m*m)).Bd 8:=fun m h0 h1=>by
  have hs:m*m≤2147483647*2147483647:=Int.mul_le_mul (by omega) (by omega) h0 (by omega)
  have h2:0≤m*m:=Int.mul_nonneg h0 h0
  exact ⟨Cd.ps (by omega) (by omega),Cd.es (by omega) (by omega),Nt (sq_bd h0 h1) (by omega)⟩
 have hok:DqOk ⟨Cd,Cd.pre,Cp,Cp.pre⟩ ⟨(dI q.c0).1,(dI q.c0).2,(dI q.c1).1,(dI q.c1).2,(dI q.c2).1,(dI q.c2).2,(dI q.c3).1,(dI q.c3).2,(dI q.d).1,(dI q.d).2⟩:=fun m h0 h1=>by
  obtain ⟨e1,e2,e3⟩:=cm m h0 h1
  refine ⟨e1,?_⟩
  simp only [dqp,e2,C5]
  exact Cp.ps e3 b4 (by omega)
 have hT:∀m:Int,0≤m→m<2147483648→dqT ⟨Cd,Cd.pre,Cp,Cp.pre⟩ ⟨(dI q.c0).1,(dI q.c0).2,(dI q.c1).1,(dI q.c1).2,(dI q.c2).1,(dI q.c2).2,(dI q.c3).1,(dI q.c3).2,(dI q.d).1,(dI q.d).2⟩ m=decide (qcmp (qof (m*m)) q≤0):=fun m h0 h1=>by
  obtain ⟨e1,e2,e3⟩:=cm m h0 h1
  simp only [dqT,dqc,e2,C5]
  rw [Cp.es e3 b4 (by omega)]
  rfl
 have hr:dqb (dqT ⟨Cd,Cd.pre,Cp,Cp.pre⟩ ⟨(dI q.c0).1,(dI q.c0).2,(dI q.c1).1,(dI q.c1).2,(dI q.c2).1,(dI q.c2).2,(dI q.c3).1,(dI q.c3).2,(dI q.d).1,(dI q.d).2⟩) 32 0=droot q:=IH hT 32 0 (by omega)
 have g:=IG (T:=fun m=>decide (qcmp (qof (m*m)) q≤0)) 32 0 (by omega) (by omega)
 change 0≤droot q∧droot q<2147483648 at g
 obtain ⟨e1,e2,e3⟩:=cm (droot q) g.1 g.2
 have c1:=Cp.ps e3 b4 (by omega)
 have c1':=Cp.es e3 b4 (by omega)
 change _=qcmp (qof (droot q*droot q)) q at c1'
 have s1:=Bz.ps hx (by omega)
 have s1':=Bz.es hx (by omega)
 simp only [C5] at e2
 simp only [NZ.2 hok,hr,cond_true,cond_false,Og g.1 g.2,e1,e2,c1,c1',s1,s1']
 generalize droot q=n at*
 have w1:i64.wrap (n+1)=n+1:=w64 (by omega) (by omega)
 have w2:i64.wrap (0-(n+1))= -(n+1):=by rw [w64 (by omega) (by omega)]; omega
 have w3:i64.wrap (0-n)= -n:=by rw [w64 (by omega) (by omega)]; omega
 simp only [w1,w2,w3]
 cases decide (qcmp (qof (n*n)) q<0)<;>cases decide ((bif x.ok then x.sg else 0)<0)<;>simp only [dlh,dchk,cond_true,cond_false]
 ·by_cases hc:n≤1073741824
  ·simp only [hc,show n≤n from Int.le_refl n,show n≥ -1073741824 by omega,show -1073741824≤n by omega,decide_true,zN,cond_true,cond_false,Bool.and_self]
  ·simp only [hc,show n≤n from Int.le_refl n,show n≥ -1073741824 by omega,show -1073741824≤n by omega,decide_true,decide_false,Bool.not_false,cond_true,cond_false,Bool.and_false]
 ·by_cases hc: -n≥ -1073741824
  ·simp only [hc,show -n≤ -n from Int.le_refl _,show -n≤1073741824 by omega,show -1073741824≤ -n by omega,decide_true,zN,cond_true,cond_false,Bool.and_self]
  ·simp only [hc,show -n≤ -n from Int.le_refl _,show ¬ -1073741824≤ -n by omega,decide_true,decide_false,cond_true,cond_false,Bool.false_and]
 ·by_cases hc:n+1≤1073741824
  ·simp only [hc,show n≤n+1 by omega,show n≥ -1073741824 by omega,show -1073741824≤n by omega,decide_true,zN,cond_true,cond_false,Bool.and_self]
  ·simp only [hc,show n≤n+1 by omega,show n≥ -1073741824 by omega,show -1073741824≤n by omega,decide_true,decide_false,Bool.not_false,cond_true,cond_false,Bool.and_false]
 ·by_cases hc: -(n+1)≥ -1073741824
  ·simp only [hc,show -(n+1)≤ -n by omega,show -n≤1073741824 by omega,show -1073741824≤ -(n+1) by omega,decide_true,zN,cond_true,cond_false,Bool.and_self]
  ·simp only [hc,show -(n+1)≤ -n by omega,show ¬ -1073741824≤ -(n+1) by omega,decide_true,decide_false,cond_true,cond_false,Bool.false_and]
theorem Be.ps {j k:Nat} {x y:Q} (hx:x.Bd j) (hy:y.Bd k) (hk:1≤k) (h:4*j+14*k+200≤PRM):Be.pre (dI x.c0).1 (dI x.c0).2 (dI x.c1).1 (dI x.c1).2 (dI x.c2).1 (dI x.c2).2 (dI x.c3).1 (dI x.c3).2 (dI x.d).1 (dI x.d).2 (dI y.c0).1 (dI y.c0).2 (dI y.c1).1 (dI y.c1).2 (dI y.c2).1 (dI y.c2).2 (dI y.c3).1 (dI y.c3).2 (dI y.d).1 (dI y.d).2=true:=Ew (Be.os hx hy hk h)
theorem Be.es {j k:Nat} {x y:Q} (hx:x.Bd j) (hy:y.Bd k) (hk:1≤k) (h:4*j+14*k+200≤PRM):Be (dI x.c0).1 (dI x.c0).2 (dI x.c1).1 (dI x.c1).2 (dI x.c2).1 (dI x.c2).2 (dI x.c3).1 (dI x.c3).2 (dI x.d).1 (dI x.d).2 (dI y.c0).1 (dI y.c0).2 (dI y.c1).1 (dI y.c1).2 (dI y.c2).1 (dI y.c2).2 (dI y.c3).1 (dI y.c3).2 (dI y.d).1 (dI y.d).2=dquot x y:=FP (Be.os hx hy hk h)
theorem Be.ok:SOK Tryz.prog 63 (Be.sp Be Be.pre):=by
 refine Dl (E:=⟨[(110,Cz.sp Cz Cz.pre),(113,Db.sp Db Db.pre),(114,Cd.sp Cd Cd.pre),(115,Cp.sp Cp Cp.pre),(116,Bz.sp Bz Bz.pre)],[(65,Tryz.f65)],[]⟩) (L:=[(0,dq.t ⟨Cd,Cd.pre,Cp,Cp.pre⟩)]) ⟨(Aa Cz.ok (Aa Db.ok (Aa Cd.ok (Aa Cp.ok (Aa Bz.ok Ac))))),(Bu ⟨Tryz.func65,by decide,rfl⟩ Aq),Aj,Ap⟩ 60 Tryz.func63 (by decide) rfl (F2 rfl rfl (dq.lok _ ⟨Aa Cd.ok (Aa Cp.ok Ac),Aq,Aj,Ap⟩)) fun vs bl v bl' h=> ?_
 unfold Be.sp at h
 split at h
 ·rename_i A7 AA AG AF AE AD AI AH AK AJ AC AB AM AL AQ AP AS AR AO AN
  simp only [zS,zP] at h
  obtain ⟨hp,rfl,rfl⟩:=h
  have hr:=Be.run Cz Cz.pre Db Db.pre Cd Cd.pre Cp Cp.pre Bz Bz.pre A7 AA AG AF AE AD AI AH AK AJ AC AB AM AL AQ AP AS AR AO AN
  rw [Be.nat] at hr
  obtain ⟨r,h2⟩:=Option.isSome_iff_exists.1 (hp:(Be.o A7 AA AG AF AE AD AI AH AK AJ AC AB AM AL AQ AP AS AR AO AN).isSome=true)
  have h3:Be A7 AA AG AF AE AD AI AH AK AJ AC AB AM AL AQ AP AS AR AO AN=r:=by unfold Be; rw [h2]; rfl
  have h4:Be.K Cz Cz.pre Db Db.pre Cd Cd.pre Cp Cp.pre Bz Bz.pre A7 AA AG AF AE AD AI AH AK AJ AC AB AM AL AQ AP AS AR AO AN some=some r:=h2
  rw [h4,Option.bind_some] at hr
  rw [h3]
  exact ⟨hr,by simp [okV,Nat.blt],clo_spec 8 _ (by kernel_rfl),Bg (by kernel_rfl)⟩
 ·cases h
end Go.Proofs.YtpejalpgficopaaGreatDoor.G
end
section
namespace Go.Proofs.YtpejalpgficopaaGreatDoor.G
open Go Go.Proofs Go.RowKit Go.Shelf
attribute [local go_sem] Oper.semAt_some
theorem idx0 (a0 a2 a4 a6 a8 b0 b2 b4 b6 b8 c0 c2 c4 c6 c8:Bool) (a1 a3 a5 a7 a9 b1 b3 b5 b7 b9 c1 c3 c5 c7 c9:ByteArray) (w:World):(Instr.index 162 (.agg #[.bool a0,.string a1,.bool a2,.string a3,.bool a4,.string a5,.bool a6,.string a7,.bool a8,.string a9,.bool b0,.string b1,.bool b2,.string b3,.bool b4,.string b5,.bool b6,.string b7,.bool b8,.string b9,.bool c0,.string c1,.bool c2,.string c3,.bool c4,.string c5,.bool c6,.string c7,.bool c8,.string c9]) (.int .i64 0)).run Tryz.prog w= .ok (.agg #[.bool a0,.string a1,.bool a2,.string a3,.bool a4,.string a5,.bool a6,.string a7,.bool a8,.string a9]) w:=by kernel_rfl
theorem idx1 (a0 a2 a4 a6 a8 b0 b2 b4 b6 b8 c0 c2 c4 c6 c8:Bool) (a1 a3 a5 a7 a9 b1 b3 b5 b7 b9 c1 c3 c5 c7 c9:ByteArray) (w:World):(Instr.index 162 (.agg #[.bool a0,.string a1,.bool a2,.string a3,.bool a4,.string a5,.bool a6,.string a7,.bool a8,.string a9,.bool b0,.string b1,.bool b2,.string b3,.bool b4,.string b5,.bool b6,.string b7,.bool b8,.string b9,.bool c0,.string c1,.bool c2,.string c3,.bool c4,.string c5,.bool c6,.string c7,.bool c8,.string c9]) (.int .i64 1)).run Tryz.prog w= .ok (.agg #[.bool b0,.string b1,.bool b2,.string b3,.bool b4,.string b5,.bool b6,.string b7,.bool b8,.string b9]) w:=by kernel_rfl
theorem idx2 (a0 a2 a4 a6 a8 b0 b2 b4 b6 b8 c0 c2 c4 c6 c8:Bool) (a1 a3 a5 a7 a9 b1 b3 b5 b7 b9 c1 c3 c5 c7 c9:ByteArray) (w:World):(Instr.index 162 (.agg #[.bool a0,.string a1,.bool a2,.string a3,.bool a4,.string a5,.bool a6,.string a7,.bool a8,.string a9,.bool b0,.string b1,.bool b2,.string b3,.bool b4,.string b5,.bool b6,.string b7,.bool b8,.string b9,.bool c0,.string c1,.bool c2,.string c3,.bool c4,.string c5,.bool c6,.string c7,.bool c8,.string c9]) (.int .i64 2)).run Tryz.prog w= .ok (.agg #[.bool c0,.string c1,.bool c2,.string c3,.bool c4,.string c5,.bool c6,.string c7,.bool c8,.string c9]) w:=by kernel_rfl
attribute [local go_sem] idx0 idx1 idx2
set_option maxHeartbeats 2000000 in
theorem NI (F:Fence) (n:Nat) (h7:F.fn 172) (hro:F.round=none) (hn:1≤n) (l B:Nat) (n₀:Nat)
  (a0 a2 a4 a6 a8 b0 b2 b4 b6 b8 c0 c2 c4 c6 c8:Bool) (a1 a3 a5 a7 a9 b1 b3 b5 b7 b9 c1 c3 c5 c7 c9:ByteArray) (enc:Fin 3→Array Value) (e0:enc 0= #[.int .i64 0,.agg #[.bool a0,.string a1,.bool a2,.string a3,.bool a4,.string a5,.bool a6,.string a7,.bool a8,.string a9]]) (e1:enc 1= #[.int .i64 1,.agg #[.bool b0,.string b1,.bool b2,.string b3,.bool b4,.string b5,.bool b6,.string b7,.bool b8,.string b9]]) (e2:enc 2= #[.int .i64 2,.agg #[.bool c0,.string c1,.bool c2,.string c3,.bool c4,.string c5,.bool c6,.string c7,.bool c8,.string c9]]) (J Jx:List (Fin 3)→World→Prop)
  (hY:∀pre x W,J pre W→pre.length<3→YieldAt F (n-1) Tryz.prog l (enc x) W fun e W'=>
   (e= .returned (.bool true)∧J (pre++[x]) W'∧Below n₀ W W')∨(e= .returned (.bool false)∧Jx (pre++[x]) W'))
  (hJA:∀ {s W o},J s W→J s (W.alloc o))
  (W:World) (hB:W.heap[B]? =some (.cells #[.bool a0,.string a1,.bool a2,.string a3,.bool a4,.string a5,.bool a6,.string a7,.bool a8,.string a9,.bool b0,.string b1,.bool b2,.string b3,.bool b4,.string b5,.bool b6,.string b7,.bool b8,.string b9,.bool c0,.string c1,.bool c2,.string c3,.bool c4,.string c5,.bool c6,.string c7,.bool c8,.string c9] 28 (0,0))) (h0:J [] W):
  CallsIn F n Tryz.prog 172 #[.func (.yield l) #[] #[],.pointer (some ⟨B,0,none⟩)] W fun e W'=>(∃v,e= .returned v)∧
   ((∃ys,ys=[(0:Fin 3),1,2]∧J ys W')∨(∃pre,True∧Jx pre W')):=by
 refine callsIn_of_wp Tryz.func172 rfl h7 ?_ hro
 simp only [Tryz.ntmps172,List.size_toArray,List.length_cons,List.length_nil,Nat.reduceAdd,Nat.reduceSub,Array.replicate_succ,Array.replicate_zero,List.push_toArray,List.append_toArray,List.nil_append,List.cons_append]
 have k0:W.cell? ⟨B,0,none⟩=some (.bool a0):=by simp [World.cell?,hB]
 have k1:W.cell? ⟨B,1,none⟩=some (.string a1):=by simp [World.cell?,hB]
 have k2:W.cell? ⟨B,2,none⟩=some (.bool a2):=by simp [World.cell?,hB]
 have k3:W.cell? ⟨B,3,none⟩=some (.string a3):=by simp [World.cell?,hB]
 have k4:W.cell? ⟨B,4,none⟩=some (.bool a4):=by simp [World.cell?,hB]
 have k5:W.cell? ⟨B,5,none⟩=some (.string a5):=by simp [World.cell?,hB]
 have k6:W.cell? ⟨B,6,none⟩=some (.bool a6):=by simp [World.cell?,hB]
 have k7:W.cell? ⟨B,7,none⟩=some (.string a7):=by simp [World.cell?,hB]
 have k8:W.cell? ⟨B,8,none⟩=some (.bool a8):=by simp [World.cell?,hB]
 have k9:W.cell? ⟨B,9,none⟩=some (.string a9):=by simp [World.cell?,hB]
 have k10:W.cell? ⟨B,10,none⟩=some (.bool b0):=by simp [World.cell?,hB]
 have k11:W.cell? ⟨B,11,none⟩=some (.string b1):=by simp [World.cell?,hB]
 have k12:W.cell? ⟨B,12,none⟩=some (.bool b2):=by simp [World.cell?,hB]
 have k13:W.cell? ⟨B,13,none⟩=some (.string b3):=by simp [World.cell?,hB]
 have k14:W.cell? ⟨B,14,none⟩=some (.bool b4):=by simp [World.cell?,hB]
 have k15:W.cell? ⟨B,15,none⟩=some (.string b5):=by simp [World.cell?,hB]
 have k16:W.cell? ⟨B,16,none⟩=some (.bool b6):=by simp [World.cell?,hB]
 have k17:W.cell? ⟨B,17,none⟩=some (.string b7):=by simp [World.cell?,hB]
 have k18:W.cell? ⟨B,18,none⟩=some (.bool b8):=by simp [World.cell?,hB]
 have k19:W.cell? ⟨B,19,none⟩=some (.string b9):=by simp [World.cell?,hB]
 have k20:W.cell? ⟨B,20,none⟩=some (.bool c0):=by simp [World.cell?,hB]
 have k21:W.cell? ⟨B,21,none⟩=some (.string c1):=by simp [World.cell?,hB]
 have k22:W.cell? ⟨B,22,none⟩=some (.bool c2):=by simp [World.cell?,hB]
 have k23:W.cell? ⟨B,23,none⟩=some (.string c3):=by simp [World.cell?,hB]
 have k24:W.cell? ⟨B,24,none⟩=some (.bool c4):=by simp [World.cell?,hB]
 have k25:W.cell? ⟨B,25,none⟩=some (.string c5):=by simp [World.cell?,hB]
 have k26:W.cell? ⟨B,26,none⟩=some (.bool c6):=by simp [World.cell?,hB]
 have k27:W.cell? ⟨B,27,none⟩=some (.string c7):=by simp [World.cell?,hB]
 have k28:W.cell? ⟨B,28,none⟩=some (.bool c8):=by simp [World.cell?,hB]
 have k29:W.cell? ⟨B,29,none⟩=some (.string c9):=by simp [World.cell?,hB]
 clear hB
 gi_wp2
 gi_loopw [12] (fun i wr=>∃k:Nat,k≤3∧i= .int .i64 k∧J ([(0:Fin 3),1,2].take k) wr)
  (fun i _=>3-(intOf i).toNat)
 case atStart=>exact ⟨0,by omega,rfl,h0⟩
 case round=>
  obtain ⟨k,hk,rfl,hJs⟩:=hrel
  have hc:k=0∨k=1∨k=2∨k=3:=by omega
  rcases hc with rfl|rfl|rfl|rfl
  ·obtain ⟨fn,tmps,assign,body,hy,hR⟩:=hY _ 0 (wr.alloc (.cells #[.bool a0,.string a1,.bool a2,.string a3,.bool a4,.string a5,.bool a6,.string a7,.bool a8,.string a9] 26)) (hJA hJs) (by simp)
   rw [e0] at hy
   gi_wp2
   refine hR.mono ?_
   rintro e W3 (⟨rfl,hJ3,hk3⟩|⟨rfl,hJx3⟩)
   ·gi_wp2
    go_roundw
    case rel=>exact ⟨1,by omega,by simp,hJ3⟩
    case measure=>simp [intOf]
   ·gi_wp2
    refine bodyPost_ret (results_none rfl _ _ _) rfl ?_
    exact ⟨⟨_,rfl⟩,.inr ⟨_,trivial,hJx3⟩⟩
  ·obtain ⟨fn,tmps,assign,body,hy,hR⟩:=hY _ 1 (wr.alloc (.cells #[.bool b0,.string b1,.bool b2,.string b3,.bool b4,.string b5,.bool b6,.string b7,.bool b8,.string b9] 26)) (hJA hJs) (by simp)
   rw [e1] at hy
   gi_wp2
   refine hR.mono ?_
   rintro e W3 (⟨rfl,hJ3,hk3⟩|⟨rfl,hJx3⟩)
   ·gi_wp2
    go_roundw
    case rel=>exact ⟨2,by omega,by simp,hJ3⟩
    case measure=>simp [intOf]
   ·gi_wp2
    refine bodyPost_ret (results_none rfl _ _ _) rfl ?_
    exact ⟨⟨_,rfl⟩,.inr ⟨_,trivial,hJx3⟩⟩
  ·obtain ⟨fn,tmps,assign,body,hy,hR⟩:=hY _ 2 (wr.alloc (.cells #[.bool c0,.string c1,.bool c2,.string c3,.bool c4,.string c5,.bool c6,.string c7,.bool c8,.string c9] 26)) (hJA hJs) (by simp)
   rw [e2] at hy
   gi_wp2
   refine hR.mono ?_
   rintro e W3 (⟨rfl,hJ3,hk3⟩|⟨rfl,hJx3⟩)
   ·gi_wp2
    go_roundw
    case rel=>exact ⟨3,by omega,by simp,hJ3⟩
    case measure=>simp [intOf]
   ·gi_wp2
    refine bodyPost_ret (results_none rfl _ _ _) rfl ?_
    exact ⟨⟨_,rfl⟩,.inr ⟨_,trivial,hJx3⟩⟩
  ·gi_wp2
   go_end0
   exact ⟨⟨_,rfl⟩,.inl ⟨_,rfl,hJs⟩⟩
set_option maxHeartbeats 1000000 in
theorem O0 (F:Fence) (n:Nat) (h5:F.fn 131) (hro:F.round=none) (cs:Array Value) (w:World):
  CallsIn F n Tryz.prog 131 #[.agg cs] w fun e w'=>e= .returned (.func (.func 172) #[] #[.pointer (some ⟨w.heap.size,0,none⟩)])∧w'=w.alloc (.cells cs 28):=by
 refine callsIn_of_wp Tryz.func131 rfl h5 ?_ hro
 simp only [Tryz.ntmps131,List.size_toArray,List.length_cons,List.length_nil,Nat.reduceAdd,Nat.reduceSub,Array.replicate_succ,Array.replicate_zero,List.push_toArray,List.append_toArray,List.nil_append,List.cons_append]
 gi_wp2
 go_ret
 exact ⟨rfl,rfl⟩
theorem OI {X Y:World} {row:Option Nat} {B:Nat} {C:Array Value} {t:TypeId} (h:X.heap[B]? =some (.cells C t (0,0))) (hg:X.grownBy Y row) (hr:∀r,row=some r→∃o:Obj,X.heap[r]? =some o∧o.isCells=false):Y.heap[B]? =some (.cells C t (0,0)):=by
 refine (hg.block B (Array.getElem?_eq_some_iff.1 h).1 fun e=> ?_).trans h
 obtain ⟨o,ho,hc⟩:=hr B e.symm
 rw [h] at ho; cases ho; cases hc
theorem fin3 (x:Fin 3):x=0∨x=1∨x=2:=by revert x; decide
theorem LX (F:Fence) (n:Nat) (h7:F.fn 172) (hro:F.round=none) (hn:1≤n) (B:Nat) (n₀:Nat) (a0 a2 a4 a6 a8 b0 b2 b4 b6 b8 c0 c2 c4 c6 c8:Bool) (a1 a3 a5 a7 a9 b1 b3 b5 b7 b9 c1 c3 c5 c7 c9:ByteArray) (cs:Array Value) (hcs:cs= #[.bool a0,.string a1,.bool a2,.string a3,.bool a4,.string a5,.bool a6,.string a7,.bool a8,.string a9,.bool b0,.string b1,.bool b2,.string b3,.bool b4,.string b5,.bool b6,.string b7,.bool b8,.string b9,.bool c0,.string c1,.bool c2,.string c3,.bool c4,.string c5,.bool c6,.string c7,.bool c8,.string c9])
  (enc:Fin 3→Array Value) (e0:enc 0= #[.int .i64 0,.agg #[.bool a0,.string a1,.bool a2,.string a3,.bool a4,.string a5,.bool a6,.string a7,.bool a8,.string a9]]) (e1:enc 1= #[.int .i64 1,.agg #[.bool b0,.string b1,.bool b2,.string b3,.bool b4,.string b5,.bool b6,.string b7,.bool b8,.string b9]]) (e2:enc 2= #[.int .i64 2,.agg #[.bool c0,.string c1,.bool c2,.string c3,.bool c4,.string c5,.bool c6,.string c7,.bool c8,.string c9]]) (w:World) (hB:w.heap[B]? =some (.cells cs 28 (0,0))):
  SeqStopsK F n Tryz.prog 172 #[.pointer (some ⟨B,0,none⟩)] enc (Below n₀) (fun ys=>ys=[(0:Fin 3),1,2]) (fun _=>True) 3 w:=fun l J Jx W hW hJ _ hY h0=>by
 subst hcs
 exact NI F n h7 hro hn l B n₀ a0 a2 a4 a6 a8 b0 b2 b4 b6 b8 c0 c2 c4 c6 c8 a1 a3 a5 a7 a9 b1 b3 b5 b7 b9 c1 c3 c5 c7 c9 enc e0 e1 e2 J Jx hY (fun hs=>hJ _ _ _ none hs (World.grownBy_alloc _ _ none) (fun r e=>by cases e)) W ((hW.block B (Array.getElem?_eq_some_iff.1 hB).1).trans hB) h0
theorem JO {F:Fence} {n:Nat} {P:Program} {w:World} {ops:Array Oper} {rest:List Oper} {o:Oper} {a:Act} {Q:Exit→Act→World→Prop}
  (hg:o.guard=none) (x:Operand) (hop:o.op= .load 28 x) {ad:Addr} (hx:a.eval x= .pointer (some ad)) {v:Value} (hr:(loadVar 28 ad).run P w= .ok v w)
  (h:wpListIn F n P ops Q rest (a.put o.dst v) w):wpListIn F n P ops Q (o::rest) a w:=by
 refine wpListIn_plain hg fun K hK=> ?_
 unfold Oper.wpIn
 refine ⟨by simp [Oper.about,hop],?_⟩
 rw [Oper.semAt_plain F _ _ (by rw [hop]; intro c hc'; cases hc')]
 simp [execOp,hop,hx,Instr.loadAt,Instr.sureAddr,hr,Result.andThen]
 exact hK _ _ h
set_option maxHeartbeats 4000000 in
theorem PX (n:Nat) (hn:6≤n) (a0 a2 a4 a6 a8 b0 b2 b4 b6 b8 c0 c2 c4 c6 c8:Bool) (a1 a3 a5 a7 a9 b1 b3 b5 b7 b9 c1 c3 c5 c7 c9:ByteArray) (bb:Fin 3→Bool) (w:World) (cs:Array Value) (hcs:cs= #[.bool a0,.string a1,.bool a2,.string a3,.bool a4,.string a5,.bool a6,.string a7,.bool a8,.string a9,.bool b0,.string b1,.bool b2,.string b3,.bool b4,.string b5,.bool b6,.string b7,.bool b8,.string b9,.bool c0,.string c1,.bool c2,.string c3,.bool c4,.string c5,.bool c6,.string c7,.bool c8,.string c9])
  (enc:Fin 3→Array Value) (e0:enc 0= #[.int .i64 0,.agg #[.bool a0,.string a1,.bool a2,.string a3,.bool a4,.string a5,.bool a6,.string a7,.bool a8,.string a9]]) (e1:enc 1= #[.int .i64 1,.agg #[.bool b0,.string b1,.bool b2,.string b3,.bool b4,.string b5,.bool b6,.string b7,.bool b8,.string b9]]) (e2:enc 2= #[.int .i64 2,.agg #[.bool c0,.string c1,.bool c2,.string c3,.bool c4,.string c5,.bool c6,.string c7,.bool c8,.string c9]])
  (encv:Fin 3→Array Value) (encv0:encv 0= #[.bool a0,.string a1,.bool a2,.string a3,.bool a4,.string a5,.bool a6,.string a7,.bool a8,.string a9]) (encv1:encv 1= #[.bool b0,.string b1,.bool b2,.string b3,.bool b4,.string b5,.bool b6,.string b7,.bool b8,.string b9]) (encv2:encv 2= #[.bool c0,.string c1,.bool c2,.string c3,.bool c4,.string c5,.bool c6,.string c7,.bool c8,.string c9])
  (hX:∀W,Below w.heap.size w W→Calls Tryz.prog 109 #[.agg #[.bool a0,.string a1,.bool a2,.string a3,.bool a4,.string a5,.bool a6,.string a7,.bool a8,.string a9]] W fun e W'=>e= .returned (.bool (bb 0))∧Below W.heap.size W W')
  (hY:∀W,Below w.heap.size w W→Calls Tryz.prog 109 #[.agg #[.bool b0,.string b1,.bool b2,.string b3,.bool b4,.string b5,.bool b6,.string b7,.bool b8,.string b9]] W fun e W'=>e= .returned (.bool (bb 1))∧Below W.heap.size W W')
  (hZ:∀W,Below w.heap.size w W→Calls Tryz.prog 109 #[.agg #[.bool c0,.string c1,.bool c2,.string c3,.bool c4,.string c5,.bool c6,.string c7,.bool c8,.string c9]] W fun e W'=>e= .returned (.bool (bb 2))∧Below W.heap.size W W'):
  CallsIn Fence.wide n Tryz.prog 83 #[.agg cs] w fun e W'=>e= .returned (.bool (bb 0&&(bb 1&&bb 2)))∧Below w.heap.size w W':=by
 have h1:1≤n:=by omega
 have hps:∀x:Fin 3,(enc x).size=(#[7,8]:Array Tmp).size:=by
  intro x
  rcases fin3 x with rfl|rfl|rfl
  ·rw [e0]; rfl
  ·rw [e1]; rfl
  ·rw [e2]; rfl
 have hL:(loadVar 28 ⟨w.heap.size,0,none⟩).run Tryz.prog ((w.alloc (.cells cs 28)).alloc (.cells #[.bool false] 4))= .ok (.agg cs) ((w.alloc (.cells cs 28)).alloc (.cells #[.bool false] 4)):=by
  subst hcs
  exact RX.run_loadVar ((Below.heap_alloc _ _ _ (by simp)).trans (World.alloc_heap_new w _)) (by kernel_rfl)
 have HL:=Lib.hid hL
 have HC:=Lib.hid hcs
 clear hL hcs
 refine callsIn_of_wp_marks Tryz.func83 rfl trivial ?_ rfl
 simp only [Tryz.ntmps83,List.size_toArray,List.length_cons,List.length_nil,Nat.reduceAdd,Nat.reduceSub,Array.replicate_succ,Array.replicate_zero,List.push_toArray,List.append_toArray,List.nil_append,List.cons_append]
 gi_wp2_with (first|(refine JO rfl _ rfl rfl HL.out ?_)|(refine ⟨trivial,?_⟩; gi_at_call 131; refine (O0 Fence.wide (n-1) trivial rfl cs _).mono ?_; rintro e w' ⟨rfl,rfl⟩))
 have bS:=(Boxed.new (w.alloc (.cells cs 28)) 4 (.bool false)).alloc (.cells cs 28)
 have hA:(((w.alloc (.cells cs 28)).alloc (.cells #[.bool false] 4)).alloc (.cells cs 28)).heap[w.heap.size+1+1]? =some (.cells cs 28 (0,0)):=by
  have:=World.alloc_heap_new ((w.alloc (.cells cs 28)).alloc (.cells #[.bool false] 4)) (.cells cs 28)
  simpa using this
 have hB0:Below w.heap.size w (((w.alloc (.cells cs 28)).alloc (.cells #[.bool false] 4)).alloc (.cells cs 28)):=(((Below.refl _ w).alloc (Nat.le_refl _) _).alloc (by simp) _).alloc (by simp; omega) _
 have hsz:(((w.alloc (.cells cs 28)).alloc (.cells #[.bool false] 4)).alloc (.cells cs 28)).heap.size=w.heap.size+3:=by simp
 simp only [World.size_alloc] at bS
 obtain ⟨W0,hW0⟩:∃W0,((w.alloc (.cells cs 28)).alloc (.cells #[.bool false] 4)).alloc (.cells cs 28)=W0:=⟨_,rfl⟩
 rw [hW0] at bS hA hB0 hsz ⊢
 clear hW0 HL
 refine wpIn_rangeFunc_ownH (α:=Fin 3) rfl h1 (gf:=172) (lb:= #[.pointer (some ⟨w.heap.size+1+1,0,none⟩)]) rfl trivial (enters_of Tryz.func172 (by kernel_rfl) rfl)
  (LX Fence.wide (n-1) trivial rfl (by omega) (w.heap.size+1+1) w.heap.size a0 a2 a4 a6 a8 b0 b2 b4 b6 b8 c0 c2 c4 c6 c8 a1 a3 a5 a7 a9 b1 b3 b5 b7 b9 c1 c3 c5 c7 c9 cs HC.out enc e0 e1 e2 W0 hA) belowK_t (belowK_b (by omega)) (Below.refl _ _) hps
  (fun pre W=>(Boxed W (w.heap.size+1) 4 (.bool false)∧∀x∈pre,bb x=true)∧Below w.heap.size w W)
  (fun c pre W=>(c= .ret∧Boxed W (w.heap.size+1) 4 (.bool false)∧(bb 0&&(bb 1&&bb 2))=false)∧Below w.heap.size w W)
  (OwnFrom.and (OwnFrom.and (Own.from (boxed_own _ _ _) _) (fun _ _ _ _ hs _ _=>hs)) (ownFrom_below (Nat.le_refl _) (by omega)))
  (fun c=>OwnFrom.and (OwnFrom.and (fun _ _ _ _ hs _ _=>hs) (OwnFrom.and (Own.from (boxed_own _ _ _) _) (fun _ _ _ _ hs _ _=>hs))) (ownFrom_below (Nat.le_refl _) (by omega)))
  ⟨⟨bS,fun x hx=>by cases hx⟩,hB0⟩
  (fun x a' W=>∃Bx,w.heap.size+1<Bx∧W.heap[Bx]? =some (.cells (encv x) 26 (0,0))∧∃(u7 u8:Value),a'= {tmps:= #[.agg cs,.pointer (some ⟨w.heap.size,0,none⟩),.pointer (some ⟨w.heap.size+1,0,none⟩),undef,.pointer (some ⟨Bx,0,none⟩),.agg cs,.func (.func 172) #[] #[.pointer (some ⟨w.heap.size+1+1,0,none⟩)],u7,u8,undef,undef,undef],defers:=[]})
  (fun x a' _ X Y row hs hg hr=>by obtain ⟨Bx,h1,h2,h3⟩:=hs; exact ⟨Bx,h1,OI h2 hg (fun r e=>(hr r e).2),h3⟩)
  ?assign ?body ?done ?stop
 case assign=>
  rintro l pre x W K ⟨⟨bS1,hp⟩,hB1⟩ hK
  rcases fin3 x with rfl|rfl|rfl
  ·rw [e0]
   gi_wp2
   exact hK _ _ ((KeepsOthers.alloc _ _).from _) ((Below.refl _ W).alloc hB1.size _) ⟨⟨bS1.alloc _,hp⟩,hB1.alloc hB1.size _⟩ ⟨W.heap.size,bS1.lt,by rw [encv0]; exact World.alloc_heap_new W _,_,_,rfl⟩
  ·rw [e1]
   gi_wp2
   exact hK _ _ ((KeepsOthers.alloc _ _).from _) ((Below.refl _ W).alloc hB1.size _) ⟨⟨bS1.alloc _,hp⟩,hB1.alloc hB1.size _⟩ ⟨W.heap.size,bS1.lt,by rw [encv1]; exact World.alloc_heap_new W _,_,_,rfl⟩
  ·rw [e2]
   gi_wp2
   exact hK _ _ ((KeepsOthers.alloc _ _).from _) ((Below.refl _ W).alloc hB1.size _) ⟨⟨bS1.alloc _,hp⟩,hB1.alloc hB1.size _⟩ ⟨W.heap.size,bS1.lt,by rw [encv2]; exact World.alloc_heap_new W _,_,_,rfl⟩
 case body=>
  rintro l pre x a' W hl ⟨r,hr⟩ ⟨⟨bS1,hp⟩,hB1⟩ ⟨Bx,hBx,bX,u7,u8,rfl⟩ hlt
  have h1':1≤n-1-1:=by omega
  have cS:=bS1.cell
  have fS:=bS1.frozen
  rcases fin3 x with rfl|rfl|rfl
  ·rw [encv0] at bX
   have hcx:∀j u,(#[.bool a0,.string a1,.bool a2,.string a3,.bool a4,.string a5,.bool a6,.string a7,.bool a8,.string a9]:Array Value)[j]? =some u→W.cell? ⟨Bx,j,none⟩=some u:=fun j u hu=>by simp [World.cell?,bX,hu]
   have k0:=hcx 0 _ rfl
   have k1:=hcx 1 _ rfl
   have k2:=hcx 2 _ rfl
   have k3:=hcx 3 _ rfl
   have k4:=hcx 4 _ rfl
   have k5:=hcx 5 _ rfl
   have k6:=hcx 6 _ rfl
   have k7:=hcx 7 _ rfl
   have k8:=hcx 8 _ rfl
   have k9:=hcx 9 _ rfl
   clear hcx
   cases hv:bb 0 with
   | false=>
    have HV:=Lib.hid hv
    rw [hv] at hX
    clear hv
    gi_wp2_with (refine ⟨trivial,?_⟩; gi_at_call 109; refine (CallsIn.inRound l (callsIn_wide.2 (hX _ hB1))).mono ?_; rintro e w' ⟨rfl,hb⟩; have cS2:=(hb.cell (p:=⟨w.heap.size+1,0,none⟩) bS1.lt).trans cS; have fS2:=(hb.frozen (p:=⟨w.heap.size+1,0,none⟩) bS1.lt).trans fS)
    exact ⟨(KeepsFrom.trans ⟨hb.size,fun k o _ hk _=>(hb.block k (Array.getElem?_eq_some_iff.1 hk).1).trans hk⟩ ((KeepsOthers.setCell _ _ _).from _)),⟨rfl,Boxed.set (.bool false) (show Boxed w' (w.heap.size+1) 4 (.bool false) from (hb.block _ bS1.lt).trans bS1),by simp⟩,(hB1.trans (hb.mono hB1.size)).setCell (p:=⟨w.heap.size+1,0,none⟩) (by simp) _⟩
   | true=>
    have HV:=Lib.hid hv
    rw [hv] at hX
    clear hv
    gi_wp2_with (refine ⟨trivial,?_⟩; gi_at_call 109; refine (CallsIn.inRound l (callsIn_wide.2 (hX _ hB1))).mono ?_; rintro e w' ⟨rfl,hb⟩)
    exact ⟨⟨hb.size,fun k o _ hk _=>(hb.block k (Array.getElem?_eq_some_iff.1 hk).1).trans hk⟩,hb.mono hB1.size,⟨(hb.block _ bS1.lt).trans bS1,fun y hy=>(List.mem_append.1 hy).elim (hp y) (fun h=>by rw [List.mem_singleton.1 h]; exact HV.out)⟩,hB1.trans (hb.mono hB1.size)⟩
  ·rw [encv1] at bX
   have hcx:∀j u,(#[.bool b0,.string b1,.bool b2,.string b3,.bool b4,.string b5,.bool b6,.string b7,.bool b8,.string b9]:Array Value)[j]? =some u→W.cell? ⟨Bx,j,none⟩=some u:=fun j u hu=>by simp [World.cell?,bX,hu]
   have k0:=hcx 0 _ rfl
   have k1:=hcx 1 _ rfl
   have k2:=hcx 2 _ rfl
   have k3:=hcx 3 _ rfl
   have k4:=hcx 4 _ rfl
   have k5:=hcx 5 _ rfl
   have k6:=hcx 6 _ rfl
   have k7:=hcx 7 _ rfl
   have k8:=hcx 8 _ rfl
   have k9:=hcx 9 _ rfl
   clear hcx
   cases hv:bb 1 with
   | false=>
    have HV:=Lib.hid hv
    rw [hv] at hY
    clear hv
    gi_wp2_with (refine ⟨trivial,?_⟩; gi_at_call 109; refine (CallsIn.inRound l (callsIn_wide.2 (hY _ hB1))).mono ?_; rintro e w' ⟨rfl,hb⟩; have cS2:=(hb.cell (p:=⟨w.heap.size+1,0,none⟩) bS1.lt).trans cS; have fS2:=(hb.frozen (p:=⟨w.heap.size+1,0,none⟩) bS1.lt).trans fS)
    exact ⟨(KeepsFrom.trans ⟨hb.size,fun k o _ hk _=>(hb.block k (Array.getElem?_eq_some_iff.1 hk).1).trans hk⟩ ((KeepsOthers.setCell _ _ _).from _)),⟨rfl,Boxed.set (.bool false) (show Boxed w' (w.heap.size+1) 4 (.bool false) from (hb.block _ bS1.lt).trans bS1),by simp⟩,(hB1.trans (hb.mono hB1.size)).setCell (p:=⟨w.heap.size+1,0,none⟩) (by simp) _⟩
   | true=>
    have HV:=Lib.hid hv
    rw [hv] at hY
    clear hv
    gi_wp2_with (refine ⟨trivial,?_⟩; gi_at_call 109; refine (CallsIn.inRound l (callsIn_wide.2 (hY _ hB1))).mono ?_; rintro e w' ⟨rfl,hb⟩)
    exact ⟨⟨hb.size,fun k o _ hk _=>(hb.block k (Array.getElem?_eq_some_iff.1 hk).1).trans hk⟩,hb.mono hB1.size,⟨(hb.block _ bS1.lt).trans bS1,fun y hy=>(List.mem_append.1 hy).elim (hp y) (fun h=>by rw [List.mem_singleton.1 h]; exact HV.out)⟩,hB1.trans (hb.mono hB1.size)⟩
  ·rw [encv2] at bX
   have hcx:∀j u,(#[.bool c0,.string c1,.bool c2,.string c3,.bool c4,.string c5,.bool c6,.string c7,.bool c8,.string c9]:Array Value)[j]? =some u→W.cell? ⟨Bx,j,none⟩=some u:=fun j u hu=>by simp [World.cell?,bX,hu]
   have k0:=hcx 0 _ rfl
   have k1:=hcx 1 _ rfl
   have k2:=hcx 2 _ rfl
   have k3:=hcx 3 _ rfl
   have k4:=hcx 4 _ rfl
   have k5:=hcx 5 _ rfl
   have k6:=hcx 6 _ rfl
   have k7:=hcx 7 _ rfl
   have k8:=hcx 8 _ rfl
   have k9:=hcx 9 _ rfl
   clear hcx
   cases hv:bb 2 with
   | false=>
    have HV:=Lib.hid hv
    rw [hv] at hZ
    clear hv
    gi_wp2_with (refine ⟨trivial,?_⟩; gi_at_call 109; refine (CallsIn.inRound l (callsIn_wide.2 (hZ _ hB1))).mono ?_; rintro e w' ⟨rfl,hb⟩; have cS2:=(hb.cell (p:=⟨w.heap.size+1,0,none⟩) bS1.lt).trans cS; have fS2:=(hb.frozen (p:=⟨w.heap.size+1,0,none⟩) bS1.lt).trans fS)
    exact ⟨(KeepsFrom.trans ⟨hb.size,fun k o _ hk _=>(hb.block k (Array.getElem?_eq_some_iff.1 hk).1).trans hk⟩ ((KeepsOthers.setCell _ _ _).from _)),⟨rfl,Boxed.set (.bool false) (show Boxed w' (w.heap.size+1) 4 (.bool false) from (hb.block _ bS1.lt).trans bS1),by simp⟩,(hB1.trans (hb.mono hB1.size)).setCell (p:=⟨w.heap.size+1,0,none⟩) (by simp) _⟩
   | true=>
    have HV:=Lib.hid hv
    rw [hv] at hZ
    clear hv
    gi_wp2_with (refine ⟨trivial,?_⟩; gi_at_call 109; refine (CallsIn.inRound l (callsIn_wide.2 (hZ _ hB1))).mono ?_; rintro e w' ⟨rfl,hb⟩)
    exact ⟨⟨hb.size,fun k o _ hk _=>(hb.block k (Array.getElem?_eq_some_iff.1 hk).1).trans hk⟩,hb.mono hB1.size,⟨(hb.block _ bS1.lt).trans bS1,fun y hy=>(List.mem_append.1 hy).elim (hp y) (fun h=>by rw [List.mem_singleton.1 h]; exact HV.out)⟩,hB1.trans (hb.mono hB1.size)⟩
 case done=>
  rintro D ys W hD rfl ⟨⟨bS1,hp⟩,hB1⟩ hK
  have cS:=bS1.cell
  have fS:=bS1.frozen
  have HP:=Lib.hid (show (bb 0&&(bb 1&&bb 2))=true by rw [hp 0 (by simp),hp 1 (by simp),hp 2 (by simp)]; rfl)
  clear hp
  gi_wp2
  have hK':=(KeepsOthers.setCell W ⟨w.heap.size+1,0,none⟩ (.bool true)).same D _ hK rfl
  refine ⟨by simp,.inl ⟨_,_,rfl,run_takeDeferred hK',?_⟩⟩
  have hc5:=cell_kept (World.cell?_setCell_same' W ⟨w.heap.size+1,0,none⟩ (.bool true) (by rw [cS]; rfl)) (grownBy_putObj' _ D (.deferred none)) (fun r e=>by cases e; exact ⟨_,hK',rfl⟩)
  refine ⟨.bool true,?_,by rw [HP.out],(hB1.setCell (p:=⟨w.heap.size+1,0,none⟩) (by simp) _).trans (belowK_b (w:=w) (Nat.le_refl _) _ D _ _ (by omega) hK' rfl rfl)⟩
  simp [results,Tryz.f83,go_sem,hc5]
 case stop=>
  rintro D c pre W hD _ ⟨⟨rfl,bS1,hf⟩,hB1⟩ hK
  have HF:=Lib.hid hf
  clear hf
  have cS:=bS1.cell
  have fS:=bS1.frozen
  gi_wp2
  refine ⟨by simp,.inl ⟨_,_,rfl,run_takeDeferred hK,?_⟩⟩
  have hc5:=cell_kept cS (grownBy_putObj' _ D (.deferred none)) (fun r e=>by cases e; exact ⟨_,hK,rfl⟩)
  refine ⟨.bool false,?_,by rw [HF.out],hB1.trans (belowK_b (w:=w) (Nat.le_refl _) _ D _ _ (by omega) hK rfl rfl)⟩
  simp [results,Tryz.f83,go_sem,hc5]
def vvsp (s:RX.HSpec):RX.HSpec
 | [.agg ⟨[.bool a0,.string a1,.bool a2,.string a3,.bool a4,.string a5,.bool a6,.string a7,.bool a8,.string a9,.bool b0,.string b1,.bool b2,.string b3,.bool b4,.string b5,.bool b6,.string b7,.bool b8,.string b9,.bool c0,.string c1,.bool c2,.string c3,.bool c4,.string c5,.bool c6,.string c7,.bool c8,.string c9]⟩],[]=>
  match s [.agg ⟨[.bool a0,.string a1,.bool a2,.string a3,.bool a4,.string a5,.bool a6,.string a7,.bool a8,.string a9]⟩] [],s [.agg ⟨[.bool b0,.string b1,.bool b2,.string b3,.bool b4,.string b5,.bool b6,.string b7,.bool b8,.string b9]⟩] [],s [.agg ⟨[.bool c0,.string c1,.bool c2,.string c3,.bool c4,.string c5,.bool c6,.string c7,.bool c8,.string c9]⟩] [] with
  |some (n0,.bool b0,[]),some (n1,.bool b1,[]),some (n2,.bool b2,[])=>some (n0&&(n1&&n2),.bool (b0&&(b1&&b2)),[])
  |_,_,_=>none
 |_,_=>none
theorem RO {s:RX.HSpec} (hs:RX.SOK Tryz.prog 109 s) {cs:List Value} {b:Bool} (h:s [.agg ⟨cs⟩] []=some (true,.bool b,[])) (hc:∀c∈cs,RX.Clo c) (W:World) (ht:RX.TabOk W):Calls Tryz.prog 109 #[.agg ⟨cs⟩] W fun e W'=>e= .returned (.bool b)∧Below W.heap.size W W':=by
 have:=hs.run _ _ _ _ h (fun _ hb=>by cases hb) (fun i=>i) W (fun _ _ hb=>by cases hb) (fun i _ hi=>by cases hi) ht (fun i hi=>by cases hi)
 have e1:(⟨[Value.agg ⟨cs⟩].map (RX.ren fun i=>i)⟩:Array Value)= #[.agg ⟨cs⟩]:=by
  simp only [List.map_cons,List.map_nil,RX.ren_agg,RX.map_clo hc]
 rw [e1] at this
 refine this.mono fun e W' ⟨g',_,he,_,_,_,hk⟩=>⟨by rw [he,RX.ren_bool],?_⟩
 exact ⟨hk.os,hk.tape,hk.output,hk.size,fun k hk'=>hk.block k hk' (fun ⟨i,hi,_⟩=>by cases hi)⟩
theorem IV {w W:World} (ht:RX.TabOk w) (hb:Below w.heap.size w W):RX.TabOk W:=
 ht.of fun x hx=>by
  obtain ⟨o,ho,_⟩:=ht x hx
  exact hb.block _ (Array.getElem?_eq_some_iff.1 ho).1
theorem clo10 (b0 b1 b2 b3 b4:Bool) (s0 s1 s2 s3 s4:ByteArray):∀c∈([.bool b0,.string s0,.bool b1,.string s1,.bool b2,.string s2,.bool b3,.string s3,.bool b4,.string s4]:List Value),RX.Clo c:=
 fun c hc=>by simp only [List.mem_cons,List.not_mem_nil,or_false] at hc; rcases hc with rfl|rfl|rfl|rfl|rfl|rfl|rfl|rfl|rfl|rfl<;>intro g<;>simp
def f3 {α:Type} (x y z:α):Fin 3→α
 |0=>x
 |1=>y
 |2=>z
theorem vvsok {s:RX.HSpec} (hs:RX.SOK Tryz.prog 109 s):RX.SOK Tryz.prog 83 (vvsp s):=by
 refine ⟨⟨Tryz.f83,rfl,by decide,rfl⟩,fun vs bl v bl' h hk1 g w hk2 hk3 ht hk4=> ?_⟩
 clear hk1 hk2 hk3 hk4
 unfold vvsp at h
 split at h
 ·rename_i a0 a1 a2 a3 a4 a5 a6 a7 a8 a9 b0 b1 b2 b3 b4 b5 b6 b7 b8 b9 c0 c1 c2 c3 c4 c5 c6 c7 c8 c9
  split at h
  ·rename_i n0 b0_ n1 b1_ n2 b2_ hx hy hz
   simp only [zS,zP,zB] at h
   obtain ⟨⟨rfl,rfl,rfl⟩,rfl,rfl⟩:=h
   have key:=callsIn_wide.1 (PX 6 (by omega) a0 a2 a4 a6 a8 b0 b2 b4 b6 b8 c0 c2 c4 c6 c8 a1 a3 a5 a7 a9 b1 b3 b5 b7 b9 c1 c3 c5 c7 c9 (f3 (b0_) (b1_) (b2_)) w _ rfl (f3 (#[.int .i64 0,.agg #[.bool a0,.string a1,.bool a2,.string a3,.bool a4,.string a5,.bool a6,.string a7,.bool a8,.string a9]]) (#[.int .i64 1,.agg #[.bool b0,.string b1,.bool b2,.string b3,.bool b4,.string b5,.bool b6,.string b7,.bool b8,.string b9]]) (#[.int .i64 2,.agg #[.bool c0,.string c1,.bool c2,.string c3,.bool c4,.string c5,.bool c6,.string c7,.bool c8,.string c9]])) rfl rfl rfl (f3 (#[.bool a0,.string a1,.bool a2,.string a3,.bool a4,.string a5,.bool a6,.string a7,.bool a8,.string a9]) (#[.bool b0,.string b1,.bool b2,.string b3,.bool b4,.string b5,.bool b6,.string b7,.bool b8,.string b9]) (#[.bool c0,.string c1,.bool c2,.string c3,.bool c4,.string c5,.bool c6,.string c7,.bool c8,.string c9])) rfl rfl rfl (fun W hb=>RO hs hx (clo10 _ _ _ _ _ _ _ _ _ _) W (IV ht hb)) (fun W hb=>RO hs hy (clo10 _ _ _ _ _ _ _ _ _ _) W (IV ht hb)) (fun W hb=>RO hs hz (clo10 _ _ _ _ _ _ _ _ _ _) W (IV ht hb)))
   simp only [List.map_cons,List.map_nil,RX.ren_agg,RX.ren_bool,RX.ren_string]
   exact key.mono fun e W' ⟨he,hb⟩=>⟨g,(fun i hi=>by cases hi),(by rw [he]; rfl),(fun i b hi=>by cases hi),(fun i hi hi2=>by cases hi2),(fun i j _ hi=>by cases hi),⟨hb.os,hb.tape,hb.output,hb.size,fun k hk _=>hb.block k hk⟩⟩
  ·cases h
 ·cases h
end Go.Proofs.YtpejalpgficopaaGreatDoor.G
end
section
namespace Go.Proofs.YtpejalpgficopaaGreatDoor.G
open Go Go.Proofs RX
mutual
def veq:Nat→Value→Value→Bool
 |_,.int k a,.int j b=>decide (k=j)&&ieq a b
 |_,.bool a,.bool b=>a==b
 |_,.string a,.string b=>a.data.toList==b.data.toList
 |n+1,.agg a,.agg b=>veqs n a.toList b.toList
 |_,_,_=>false
def veqs:Nat→List Value→List Value→Bool
 |_,[],[]=>true
 |n+1,a::r,b::s=>veq n a b&&veqs n r s
 |_,_,_=>false
end
theorem QD:∀(n:Nat),(∀a b,veq n a b=true→a=b)∧(∀a b,veqs n a b=true→a=b)
  | n =>by
    have hl :∀m,(∀j,j<m→∀a b,veq j a b=true→a=b)→(∀j,j<m→∀a b,veqs j a b=true→a=b)→∀a b,veqs m a b=true→a=b:=fun m h1 h2 a b h=>by
      cases a with
      | nil=>cases b with
        |nil=>rfl
        |cons b s=>cases m<;>simp [veqs] at h
      | cons a r=>cases b with
        |nil=>cases m<;>simp [veqs] at h
        | cons b s=>cases m with
          |zero=>simp [veqs] at h
          | succ m=>
            rw [veqs,zB] at h
            rw [h1 m (by omega) _ _ h.1,h2 m (by omega) _ _ h.2]
    have hv:∀m,(∀j,j<m→∀a b,veqs j a b=true→a=b)→∀a b,veq m a b=true→a=b:=fun m h1 a b h=>by
      cases a<;>cases b<;>try (first|(cases m<;>simp [veq] at h; done))
      case bool.bool a b=>cases m<;>(simp only [veq,beq_iff_eq] at h; rw [h])
      case int.int k a j b=>
        have:(decide (k=j)&&ieq a b)=true:=by cases m<;>exact h
        rw [zB,decide_eq_true_iff,Gl] at this
        rw [this.1,this.2]
      case string.string a b=>
        have:(a.data.toList==b.data.toList)=true:=by cases m<;>exact h
        rw [beq_iff_eq] at this
        obtain ⟨⟨a⟩⟩:=a
        obtain ⟨⟨b⟩⟩:=b
        simp only at this
        rw [this]
      case agg.agg a b=>
        cases m with
        |zero=>simp [veq] at h
        | succ m=>
          have:=h1 m (by omega) _ _ h
          obtain ⟨a⟩:=a
          obtain ⟨b⟩:=b
          simp only at this
          rw [this]
    have key:∀m,∀j,j<m→(∀a b,veq j a b=true→a=b)∧(∀a b,veqs j a b=true→a=b):=fun m=>by
      induction m with
      |zero=>intro j hj; omega
      | succ m ih=>
        intro j hj
        by_cases hjm:j<m
        · exact ih j hjm
        · have:j=m:=by omega
          subst this
          exact ⟨hv j (fun i hi=>(ih i hi).2),hl j (fun i hi=>(ih i hi).1) (fun i hi=>(ih i hi).2)⟩
    exact key (n+1) n (by omega)
def tabS:List (List Value×Value)→HSpec
 |[],_,_=>none
 |p::r,vs,[]=>bif veqs 60 p.1 vs then some (true,p.2,[]) else tabS r vs []
 |_::_,_,_::_=>none
theorem Mv {s:HSpec} :∀ {l:List (List Value×Value)},(∀p∈l,s p.1 []=some (true,p.2,[]))→∀vs bl v bl',tabS l vs bl=some (true,v,bl')→s vs bl=some (true,v,bl')
 |[],_,vs,bl,v,bl',h=>by simp [tabS] at h
 | p ::r,hl,vs,bl,v,bl',h=>by
  cases bl with
  |cons b bl=>simp [tabS] at h
  | nil=>
   unfold tabS at h
   cases hv:veqs 60 p.1 vs with
   | true=>
    rw [hv] at h
    simp only [cond_true,zS,zP,true_and] at h
    obtain ⟨rfl,rfl⟩:=h
    rw [←(QD 60).2 _ _ hv]
    exact hl p (List.mem_cons_self ..)
   | false=>
    rw [hv] at h
    exact Mv (fun q hq=>hl q (List.mem_cons_of_mem _ hq)) vs [] v bl' h
theorem Ip {P:Program} {f:FuncId} {s:HSpec} (hs:SOK P f s) {l:List (List Value×Value)} (h:∀p∈l,s p.1 []=some (true,p.2,[])):SOK P f (tabS l):=
 ⟨hs.enter,fun vs bl v bl' ht=>hs.run vs bl v bl' (Mv h vs bl v bl' ht)⟩
abbrev cq (x:Q):Value:= .agg ⟨[.bool (dI x.c0).1,.string (dI x.c0).2,.bool (dI x.c1).1,.string (dI x.c1).2,.bool (dI x.c2).1,.string (dI x.c2).2,.bool (dI x.c3).1,.string (dI x.c3).2,.bool (dI x.d).1,.string (dI x.d).2]⟩
theorem bd1_of {n:Int} (h:n.natAbs≤255):Bd 1 n:=by
 have:p8 1=256:=by decide
 unfold Bd
 omega
theorem bd8 {n:Int} (h:n.natAbs≤255):(qof n).Bd 1:=Nt (bd1_of h) (Nat.le_refl 1)
theorem OR {x y:Q} {k:Nat} (hx:x.Bd k) (hy:y.Bd k) (hk:k≤PRM):Cz.sp Cz Cz.pre [cq x,cq y] []=some (true,cq (qmulv x y),[]):=by
 have h1:=Cz.ps hx hy hk hk
 have h2:=Cz.es hx hy hk hk
 change _=C5 (qmulv x y) at h2
 simp only [Cz.sp,h1,h2,C5]
theorem Ra {x y:Q} {k:Nat} (hx:x.Bd k) (hy:y.Bd k) (hk:k≤PRM) (ok:(x.ok&&y.ok)=true):DZ.sp DZ DZ.pre [cq x,cq y] []=some (true,cq (qadd x y),[]):=by
 have h1:=DZ.ps hx hy hk hk
 have h2:=DZ.es hx hy hk hk
 rw [ok] at h2
 change _=C5 (qadd x y) at h2
 simp only [DZ.sp,h1,h2,C5]
theorem awOf1 {n:Int} (h: -9223372036854775808≤n) (h':n≤9223372036854775807):Cd.sp Cd Cd.pre [.int .i64 n] []=some (true,cq (qof n),[]):=by
 have h1:=Cd.ps h h'
 have h2:=Cd.es h h'
 change _=C5 (qof n) at h2
 simp only [Cd.sp,h1,h2,C5]
theorem Mn {x:Q} {k:Nat} (hx:x.Bd k) (hk:k≤LIM):Al.sp Al Al.pre [cq x] []=some (true,.bool x.ok,[]):=by
 have h1:=Al.ps hx hk
 have h2:=Al.es hx hk
 simp only [Al.sp,h1,h2]
theorem OQ {x y:Q} (hx:x.Bd 1) (hy:y.Bd 1):Be.sp Be Be.pre [cq x,cq y] []=some (true,.tuple ⟨[.agg ⟨[.int .i64 (dquot x y).1,.int .i64 (dquot x y).2.1]⟩,.int .i64 (dquot x y).2.2]⟩,[]):=by
 have h1:=Be.ps hx hy (by omega) (by unfold PRM; omega)
 have h2:=Be.es hx hy (by omega) (by unfold PRM; omega)
 simp only [Be.sp,h1,h2]
theorem dq3:dquot (qof 3) (qof 25)=(10066329,10066330,0):=by kernel_rfl
theorem dq0:dquot (qof 0) (qof 25)=(0,0,0):=by kernel_rfl
theorem dq4:dquot (qof 4) (qof 25)=(13421772,13421773,0):=by kernel_rfl
def PT:HSpec:=tabS [([cq (qof 3),cq (qof 3)],cq (qof 9)),([cq (qof 0),cq (qof 0)],cq (qof 0)),([cq (qof 4),cq (qof 4)],cq (qof 16))]
theorem PT.ok:SOK Tryz.prog 110 PT:=Ip Cz.ok fun p hp=>by
 simp only [List.mem_cons,List.not_mem_nil,or_false] at hp
 rcases hp with rfl|rfl|rfl
 ·exact (OR (bd8 (by decide)) (bd8 (by decide)) (by unfold PRM; omega)).trans rfl
 ·exact (OR (bd8 (by decide)) (bd8 (by decide)) (by unfold PRM; omega)).trans rfl
 ·exact (OR (bd8 (by decide)) (bd8 (by decide)) (by unfold PRM; omega)).trans rfl
def PU:HSpec:=tabS [([cq (qof 9),cq (qof 0)],cq (qof 9)),([cq (qof 9),cq (qof 16)],cq (qof 25))]
theorem PU.ok:SOK Tryz.prog 112 PU:=Ip DZ.ok fun p hp=>by
 simp only [List.mem_cons,List.not_mem_nil,or_false] at hp
 rcases hp with rfl|rfl
 ·exact (Ra (bd8 (by decide)) (bd8 (by decide)) (by unfold PRM; omega) rfl).trans rfl
 ·exact (Ra (bd8 (by decide)) (bd8 (by decide)) (by unfold PRM; omega) rfl).trans rfl
def awOf:HSpec:=tabS [([.int .i64 0],cq (qof 0))]
theorem awOf.ok:SOK Tryz.prog 114 awOf:=Ip Cd.ok fun p hp=>by
 simp only [List.mem_cons,List.not_mem_nil,or_false] at hp
 subst hp
 exact awOf1 (by decide) (by decide)
def MB:HSpec:=tabS [([cq (qof 3)],.bool true),([cq (qof 0)],.bool true),([cq (qof 4)],.bool true),([cq (qof 1)],.bool true)]
theorem MB.ok:SOK Tryz.prog 109 MB:=Ip Al.ok fun p hp=>by
 simp only [List.mem_cons,List.not_mem_nil,or_false] at hp
 rcases hp with rfl|rfl|rfl|rfl
 ·exact (Mn (bd8 (by decide)) (by unfold LIM; omega)).trans rfl
 ·exact (Mn (bd8 (by decide)) (by unfold LIM; omega)).trans rfl
 ·exact (Mn (bd8 (by decide)) (by unfold LIM; omega)).trans rfl
 ·exact (Mn (bd8 (by decide)) (by unfold LIM; omega)).trans rfl
def PS:HSpec:=tabS [([cq (qof 3),cq (qof 25)],.tuple ⟨[.agg ⟨[.int .i64 10066329,.int .i64 10066330]⟩,.int .i64 0]⟩),([cq (qof 0),cq (qof 25)],.tuple ⟨[.agg ⟨[.int .i64 0,.int .i64 0]⟩,.int .i64 0]⟩),([cq (qof 4),cq (qof 25)],.tuple ⟨[.agg ⟨[.int .i64 13421772,.int .i64 13421773]⟩,.int .i64 0]⟩)]
theorem PS.ok:SOK Tryz.prog 63 PS:=Ip Be.ok fun p hp=>by
 simp only [List.mem_cons,List.not_mem_nil,or_false] at hp
 rcases hp with rfl|rfl|rfl
 ·exact (OQ (bd8 (by decide)) (bd8 (by decide))).trans (by rw [dq3])
 ·exact (OQ (bd8 (by decide)) (bd8 (by decide))).trans (by rw [dq0])
 ·exact (OQ (bd8 (by decide)) (bd8 (by decide))).trans (by rw [dq4])
def MA:HSpec:=vvsp MB
theorem MA.ok:SOK Tryz.prog 83 MA:=vvsok MB.ok
end Go.Proofs.YtpejalpgficopaaGreatDoor.G
end
section
namespace Go.Proofs.YtpejalpgficopaaGreatDoor.G
open Go Go.Proofs Go.RowKit RX
noncomputable def y153:HSpec:=self Tryz.prog ⟨[],[(153,Tryz.f153),(153,Tryz.f153)],[]⟩ [] 60 Tryz.f153
theorem y153_ok:SOK Tryz.prog 153 y153:=EW ⟨Ac,(Bu ⟨Tryz.func153,by decide,rfl⟩ (Bu ⟨Tryz.func153,by decide,rfl⟩ Aq)),Aj,Ap⟩ 60 Tryz.func153 (by decide) rfl Bf
noncomputable def y102:HSpec:=self Tryz.prog ⟨[(153,y153)],[(102,Tryz.f102),(102,Tryz.f102)],[]⟩ [] 60 Tryz.f102
theorem y102_ok:SOK Tryz.prog 102 y102:=EW ⟨(Aa y153_ok Ac),(Bu ⟨Tryz.func102,by decide,rfl⟩ (Bu ⟨Tryz.func102,by decide,rfl⟩ Aq)),Aj,Ap⟩ 60 Tryz.func102 (by decide) rfl Bf
noncomputable def y53:HSpec:=self Tryz.prog ⟨[(102,y102)],[(53,Tryz.f53),(53,Tryz.f53)],[]⟩ [] 60 Tryz.f53
theorem y53_ok:SOK Tryz.prog 53 y53:=EW ⟨(Aa y102_ok Ac),(Bu ⟨Tryz.func53,by decide,rfl⟩ (Bu ⟨Tryz.func53,by decide,rfl⟩ Aq)),Aj,Ap⟩ 60 Tryz.func53 (by decide) rfl Bf
noncomputable def y13:HSpec:=self Tryz.prog ⟨[(53,y53)],[(13,Tryz.f13),(13,Tryz.f13)],[]⟩ [] 60 Tryz.f13
theorem y13_ok:SOK Tryz.prog 13 y13:=EW ⟨(Aa y53_ok Ac),(Bu ⟨Tryz.func13,by decide,rfl⟩ (Bu ⟨Tryz.func13,by decide,rfl⟩ Aq)),Aj,Ap⟩ 60 Tryz.func13 (by decide) rfl Bf
noncomputable def y156:HSpec:=self Tryz.prog ⟨[(114,awOf)],[(156,Tryz.f156),(156,Tryz.f156)],[]⟩ [] 60 Tryz.f156
theorem y156_ok:SOK Tryz.prog 156 y156:=EW ⟨(Aa awOf.ok Ac),(Bu ⟨Tryz.func156,by decide,rfl⟩ (Bu ⟨Tryz.func156,by decide,rfl⟩ Aq)),Aj,Ap⟩ 60 Tryz.func156 (by decide) rfl Bf
noncomputable def y108:HSpec:=self Tryz.prog ⟨[(156,y156)],[(108,Tryz.f108),(108,Tryz.f108)],[]⟩ [] 60 Tryz.f108
theorem y108_ok:SOK Tryz.prog 108 y108:=EW ⟨(Aa y156_ok Ac),(Bu ⟨Tryz.func108,by decide,rfl⟩ (Bu ⟨Tryz.func108,by decide,rfl⟩ Aq)),Aj,Ap⟩ 60 Tryz.func108 (by decide) rfl Bf
noncomputable def y60:HSpec:=self Tryz.prog ⟨[(83,MA),(108,y108),(109,MB)],[(60,Tryz.f60),(60,Tryz.f60)],[]⟩ [] 60 Tryz.f60
theorem y60_ok:SOK Tryz.prog 60 y60:=EW ⟨(Aa MA.ok (Aa y108_ok (Aa MB.ok Ac))),(Bu ⟨Tryz.func60,by decide,rfl⟩ (Bu ⟨Tryz.func60,by decide,rfl⟩ Aq)),Aj,Ap⟩ 60 Tryz.func60 (by decide) rfl Bf
noncomputable def y61:HSpec:=self Tryz.prog ⟨[(83,MA),(110,PT),(112,PU)],[(111,Tryz.f111),(111,Tryz.f111)],[]⟩ [] 60 Tryz.f61
theorem y61_ok:SOK Tryz.prog 61 y61:=EW ⟨(Aa MA.ok (Aa PT.ok (Aa PU.ok Ac))),(Bu ⟨Tryz.func111,by decide,rfl⟩ (Bu ⟨Tryz.func111,by decide,rfl⟩ Aq)),Aj,Ap⟩ 60 Tryz.func61 (by decide) rfl Bf
noncomputable def y62:HSpec:=self Tryz.prog ⟨[],[(62,Tryz.f62),(62,Tryz.f62)],[]⟩ [] 60 Tryz.f62
theorem Nj:SOK Tryz.prog 62 y62:=EW ⟨Ac,(Bu ⟨Tryz.func62,by decide,rfl⟩ (Bu ⟨Tryz.func62,by decide,rfl⟩ Aq)),Aj,Ap⟩ 60 Tryz.func62 (by decide) rfl Bf
noncomputable def y64:HSpec:=self Tryz.prog ⟨[],[(64,Tryz.f64),(64,Tryz.f64)],[]⟩ [] 60 Tryz.f64
theorem QB:SOK Tryz.prog 64 y64:=EW ⟨Ac,(Bu ⟨Tryz.func64,by decide,rfl⟩ (Bu ⟨Tryz.func64,by decide,rfl⟩ Aq)),Aj,Ap⟩ 60 Tryz.func64 (by decide) rfl Bf
noncomputable def y18:HSpec:=self Tryz.prog ⟨[(60,y60),(61,y61),(62,y62),(63,PS),(64,y64)],[(18,Tryz.f18),(18,Tryz.f18)],[]⟩ [] 60 Tryz.f18
theorem y18_ok:SOK Tryz.prog 18 y18:=EW ⟨(Aa y60_ok (Aa y61_ok (Aa Nj (Aa PS.ok (Aa QB Ac))))),(Bu ⟨Tryz.func18,by decide,rfl⟩ (Bu ⟨Tryz.func18,by decide,rfl⟩ Aq)),Aj,Ap⟩ 60 Tryz.func18 (by decide) rfl Bf
noncomputable def y65:HSpec:=self Tryz.prog ⟨[],[(65,Tryz.f65),(65,Tryz.f65)],[]⟩ [] 60 Tryz.f65
theorem KX:SOK Tryz.prog 65 y65:=EW ⟨Ac,(Bu ⟨Tryz.func65,by decide,rfl⟩ (Bu ⟨Tryz.func65,by decide,rfl⟩ Aq)),Aj,Ap⟩ 60 Tryz.func65 (by decide) rfl Bf
noncomputable def y117:HSpec:=self Tryz.prog ⟨[],[(117,Tryz.f117),(117,Tryz.f117)],[]⟩ [] 60 Tryz.f117
theorem MF:SOK Tryz.prog 117 y117:=EW ⟨Ac,(Bu ⟨Tryz.func117,by decide,rfl⟩ (Bu ⟨Tryz.func117,by decide,rfl⟩ Aq)),Aj,Ap⟩ 60 Tryz.func117 (by decide) rfl Bf
noncomputable def y118:HSpec:=self Tryz.prog ⟨[],[(118,Tryz.f118),(118,Tryz.f118)],[]⟩ [] 60 Tryz.f118
theorem Hq:SOK Tryz.prog 118 y118:=EW ⟨Ac,(Bu ⟨Tryz.func118,by decide,rfl⟩ (Bu ⟨Tryz.func118,by decide,rfl⟩ Aq)),Aj,Ap⟩ 60 Tryz.func118 (by decide) rfl Bf
noncomputable def y119:HSpec:=self Tryz.prog ⟨[],[(119,Tryz.f119),(119,Tryz.f119)],[]⟩ [] 60 Tryz.f119
theorem KC:SOK Tryz.prog 119 y119:=EW ⟨Ac,(Bu ⟨Tryz.func119,by decide,rfl⟩ (Bu ⟨Tryz.func119,by decide,rfl⟩ Aq)),Aj,Ap⟩ 60 Tryz.func119 (by decide) rfl Bf
noncomputable def y120:HSpec:=self Tryz.prog ⟨[(119,y119)],[(120,Tryz.f120),(120,Tryz.f120)],[]⟩ [] 60 Tryz.f120
theorem ME:SOK Tryz.prog 120 y120:=EW ⟨(Aa KC Ac),(Bu ⟨Tryz.func120,by decide,rfl⟩ (Bu ⟨Tryz.func120,by decide,rfl⟩ Aq)),Aj,Ap⟩ 60 Tryz.func120 (by decide) rfl Bf
noncomputable def y67:HSpec:=self Tryz.prog ⟨[(65,y65),(117,y117),(118,y118),(119,y119),(120,y120)],[(67,Tryz.f67),(67,Tryz.f67)],[]⟩ [] 60 Tryz.f67
theorem QA:SOK Tryz.prog 67 y67:=EW ⟨(Aa KX (Aa MF (Aa Hq (Aa KC (Aa ME Ac))))),(Bu ⟨Tryz.func67,by decide,rfl⟩ (Bu ⟨Tryz.func67,by decide,rfl⟩ Aq)),Aj,Ap⟩ 60 Tryz.func67 (by decide) rfl Bf
noncomputable def y130:HSpec:=self Tryz.prog ⟨[],[(130,Tryz.f130),(130,Tryz.f130)],[]⟩ [] 60 Tryz.f130
theorem y130_ok:SOK Tryz.prog 130 y130:=EW ⟨Ac,(Bu ⟨Tryz.func130,by decide,rfl⟩ (Bu ⟨Tryz.func130,by decide,rfl⟩ Aq)),Aj,Ap⟩ 60 Tryz.func130 (by decide) rfl Bf
noncomputable def y81:HSpec:=self Tryz.prog ⟨[(65,y65),(118,y118),(130,y130)],[(81,Tryz.f81),(81,Tryz.f81)],[]⟩ [] 60 Tryz.f81
theorem y81_ok:SOK Tryz.prog 81 y81:=EW ⟨(Aa KX (Aa Hq (Aa y130_ok Ac))),(Bu ⟨Tryz.func81,by decide,rfl⟩ (Bu ⟨Tryz.func81,by decide,rfl⟩ Aq)),Aj,Ap⟩ 60 Tryz.func81 (by decide) rfl Bf
noncomputable def y66:HSpec:=self Tryz.prog ⟨[(62,y62),(67,y67),(81,y81)],[(66,Tryz.f66),(66,Tryz.f66)],[]⟩ [] 60 Tryz.f66
theorem y66_ok:SOK Tryz.prog 66 y66:=EW ⟨(Aa Nj (Aa QA (Aa y81_ok Ac))),(Bu ⟨Tryz.func66,by decide,rfl⟩ (Bu ⟨Tryz.func66,by decide,rfl⟩ Aq)),Aj,Ap⟩ 60 Tryz.func66 (by decide) rfl Bf
noncomputable def y129:HSpec:=self Tryz.prog ⟨[(65,y65)],[(129,Tryz.f129),(129,Tryz.f129)],[]⟩ [] 60 Tryz.f129
theorem KB:SOK Tryz.prog 129 y129:=EW ⟨(Aa KX Ac),(Bu ⟨Tryz.func129,by decide,rfl⟩ (Bu ⟨Tryz.func129,by decide,rfl⟩ Aq)),Aj,Ap⟩ 60 Tryz.func129 (by decide) rfl Bf
noncomputable def y122:HSpec:=self Tryz.prog ⟨[(118,y118),(129,y129)],[(122,Tryz.f122),(122,Tryz.f122)],[]⟩ [] 60 Tryz.f122
theorem OW:SOK Tryz.prog 122 y122:=EW ⟨(Aa Hq (Aa KB Ac)),(Bu ⟨Tryz.func122,by decide,rfl⟩ (Bu ⟨Tryz.func122,by decide,rfl⟩ Aq)),Aj,Ap⟩ 60 Tryz.func122 (by decide) rfl Bf
noncomputable def y123:HSpec:=self Tryz.prog ⟨[(117,y117),(118,y118),(119,y119),(120,y120),(129,y129)],[(123,Tryz.f123),(123,Tryz.f123)],[]⟩ [] 60 Tryz.f123
theorem OV:SOK Tryz.prog 123 y123:=EW ⟨(Aa MF (Aa Hq (Aa KC (Aa ME (Aa KB Ac))))),(Bu ⟨Tryz.func123,by decide,rfl⟩ (Bu ⟨Tryz.func123,by decide,rfl⟩ Aq)),Aj,Ap⟩ 60 Tryz.func123 (by decide) rfl Bf
noncomputable def y124:HSpec:=self Tryz.prog ⟨[(118,y118),(129,y129)],[(124,Tryz.f124),(124,Tryz.f124)],[]⟩ [] 60 Tryz.f124
theorem OU:SOK Tryz.prog 124 y124:=EW ⟨(Aa Hq (Aa KB Ac)),(Bu ⟨Tryz.func124,by decide,rfl⟩ (Bu ⟨Tryz.func124,by decide,rfl⟩ Aq)),Aj,Ap⟩ 60 Tryz.func124 (by decide) rfl Bf
noncomputable def y127:HSpec:=self Tryz.prog ⟨[(117,y117),(118,y118),(119,y119),(120,y120),(129,y129)],[(127,Tryz.f127),(127,Tryz.f127)],[]⟩ [] 60 Tryz.f127
theorem y127_ok:SOK Tryz.prog 127 y127:=EW ⟨(Aa MF (Aa Hq (Aa KC (Aa ME (Aa KB Ac))))),(Bu ⟨Tryz.func127,by decide,rfl⟩ (Bu ⟨Tryz.func127,by decide,rfl⟩ Aq)),Aj,Ap⟩ 60 Tryz.func127 (by decide) rfl Bf
noncomputable def y121:HSpec:=self Tryz.prog ⟨[(62,y62),(122,y122),(123,y123),(124,y124),(127,y127)],[(121,Tryz.f121),(121,Tryz.f121)],[]⟩ [] 60 Tryz.f121
theorem MD:SOK Tryz.prog 121 y121:=EW ⟨(Aa Nj (Aa OW (Aa OV (Aa OU (Aa y127_ok Ac))))),(Bu ⟨Tryz.func121,by decide,rfl⟩ (Bu ⟨Tryz.func121,by decide,rfl⟩ Aq)),Aj,Ap⟩ 60 Tryz.func121 (by decide) rfl Bf
noncomputable def y68:HSpec:=self Tryz.prog ⟨[(122,y122),(121,y121)],[(68,Tryz.f68),(68,Tryz.f68)],[]⟩ [] 60 Tryz.f68
theorem y68_ok:SOK Tryz.prog 68 y68:=EW ⟨(Aa OW (Aa MD Ac)),(Bu ⟨Tryz.func68,by decide,rfl⟩ (Bu ⟨Tryz.func68,by decide,rfl⟩ Aq)),Aj,Ap⟩ 60 Tryz.func68 (by decide) rfl Bf
noncomputable def y69:HSpec:=self Tryz.prog ⟨[(123,y123),(121,y121)],[(69,Tryz.f69),(69,Tryz.f69)],[]⟩ [] 60 Tryz.f69
theorem y69_ok:SOK Tryz.prog 69 y69:=EW ⟨(Aa OV (Aa MD Ac)),(Bu ⟨Tryz.func69,by decide,rfl⟩ (Bu ⟨Tryz.func69,by decide,rfl⟩ Aq)),Aj,Ap⟩ 60 Tryz.func69 (by decide) rfl Bf
noncomputable def y70:HSpec:=self Tryz.prog ⟨[(124,y124),(121,y121)],[(70,Tryz.f70),(70,Tryz.f70)],[]⟩ [] 60 Tryz.f70
theorem y70_ok:SOK Tryz.prog 70 y70:=EW ⟨(Aa OU (Aa MD Ac)),(Bu ⟨Tryz.func70,by decide,rfl⟩ (Bu ⟨Tryz.func70,by decide,rfl⟩ Aq)),Aj,Ap⟩ 60 Tryz.func70 (by decide) rfl Bf
noncomputable def y20:HSpec:=self Tryz.prog ⟨[(64,y64),(65,y65),(67,y67),(66,y66),(68,y68),(69,y69),(70,y70)],[(20,Tryz.f20),(20,Tryz.f20)],[]⟩ [] 60 Tryz.f20
theorem y20_ok:SOK Tryz.prog 20 y20:=EW ⟨(Aa QB (Aa KX (Aa QA (Aa y66_ok (Aa y68_ok (Aa y69_ok (Aa y70_ok Ac))))))),(Bu ⟨Tryz.func20,by decide,rfl⟩ (Bu ⟨Tryz.func20,by decide,rfl⟩ Aq)),Aj,Ap⟩ 60 Tryz.func20 (by decide) rfl Bf
noncomputable def y49:HSpec:=self Tryz.prog ⟨[(65,y65)],[(49,Tryz.f49),(49,Tryz.f49)],[]⟩ [] 60 Tryz.f49
theorem y49_ok:SOK Tryz.prog 49 y49:=EW ⟨(Aa KX Ac),(Bu ⟨Tryz.func49,by decide,rfl⟩ (Bu ⟨Tryz.func49,by decide,rfl⟩ Aq)),Aj,Ap⟩ 60 Tryz.func49 (by decide) rfl Bf
def EQ.sp:HSpec
 |[],[]=>some (true,.bool true,[])
 |_,_=>none
theorem EQ.run:xfn Tryz.prog ⟨[(13,y13),(18,y18),(20,y20),(49,y49)],[(10,Tryz.f10),(10,Tryz.f10)],[]⟩ [] 60 Tryz.f10 [] []=some (.bool true,[]):=by kernel_rfl
theorem EQ.ok:SOK Tryz.prog 10 EQ.sp:=by
 refine Dl (E:=⟨[(13,y13),(18,y18),(20,y20),(49,y49)],[(10,Tryz.f10),(10,Tryz.f10)],[]⟩) (L:=[]) ⟨(Aa y13_ok (Aa y18_ok (Aa y20_ok (Aa y49_ok Ac)))),(Bu ⟨Tryz.func10,by decide,rfl⟩ (Bu ⟨Tryz.func10,by decide,rfl⟩ Aq)),Aj,Ap⟩ 60 Tryz.func10 (by decide) rfl Bf fun vs bl v bl' h=> ?_
 unfold EQ.sp at h
 split at h
 ·simp only [zS,zP,true_and] at h
  obtain ⟨rfl,rfl⟩:=h
  exact ⟨EQ.run,by simp [okV],clo_spec 8 _ rfl,Bg rfl⟩
 ·cases h
end Go.Proofs.YtpejalpgficopaaGreatDoor.G
end
