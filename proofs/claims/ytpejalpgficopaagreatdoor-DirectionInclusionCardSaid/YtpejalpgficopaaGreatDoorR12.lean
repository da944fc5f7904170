/- A part of what the law's proof leans on. PACKED BY pack.py of this repo. -/
import Derived.Test.YtpejalpgficopaaGreatDoorR11
section
namespace Go.Proofs.YtpejalpgficopaaGreatDoor.G
open Go Go.Proofs Go.RowKit RX
set_option linter.unusedVariables false
set_option linter.unusedSimpArgs false
noncomputable def direction_quotient.K {R:Type} (f_field_Mul:Bool→ByteArray→Bool→ByteArray→Bool→ByteArray→Bool→ByteArray→Bool→ByteArray→Bool→ByteArray→Bool→ByteArray→Bool→ByteArray→Bool→ByteArray→Bool→ByteArray→(Bool×ByteArray×Bool×ByteArray×Bool×ByteArray×Bool×ByteArray×Bool×ByteArray)) (p_field_Mul:Bool→ByteArray→Bool→ByteArray→Bool→ByteArray→Bool→ByteArray→Bool→ByteArray→Bool→ByteArray→Bool→ByteArray→Bool→ByteArray→Bool→ByteArray→Bool→ByteArray→Bool) (f_field_Div:Bool→ByteArray→Bool→ByteArray→Bool→ByteArray→Bool→ByteArray→Bool→ByteArray→Bool→ByteArray→Bool→ByteArray→Bool→ByteArray→Bool→ByteArray→Bool→ByteArray→(Bool×ByteArray×Bool×ByteArray×Bool×ByteArray×Bool×ByteArray×Bool×ByteArray×Int)) (p_field_Div:Bool→ByteArray→Bool→ByteArray→Bool→ByteArray→Bool→ByteArray→Bool→ByteArray→Bool→ByteArray→Bool→ByteArray→Bool→ByteArray→Bool→ByteArray→Bool→ByteArray→Bool) (f_field_Of:Int→(Bool×ByteArray×Bool×ByteArray×Bool×ByteArray×Bool×ByteArray×Bool×ByteArray)) (p_field_Of:Int→Bool) (f_field_Cmp:Bool→ByteArray→Bool→ByteArray→Bool→ByteArray→Bool→ByteArray→Bool→ByteArray→Bool→ByteArray→Bool→ByteArray→Bool→ByteArray→Bool→ByteArray→Bool→ByteArray→(Int)) (p_field_Cmp:Bool→ByteArray→Bool→ByteArray→Bool→ByteArray→Bool→ByteArray→Bool→ByteArray→Bool→ByteArray→Bool→ByteArray→Bool→ByteArray→Bool→ByteArray→Bool→ByteArray→Bool) (f_field_Sign:Bool→ByteArray→Bool→ByteArray→Bool→ByteArray→Bool→ByteArray→Bool→ByteArray→(Int)) (p_field_Sign:Bool→ByteArray→Bool→ByteArray→Bool→ByteArray→Bool→ByteArray→Bool→ByteArray→Bool) (a0_0:Bool) (a0_1:ByteArray) (a0_2:Bool) (a0_3:ByteArray) (a0_4:Bool) (a0_5:ByteArray) (a0_6:Bool) (a0_7:ByteArray) (a0_8:Bool) (a0_9:ByteArray) (a1_0:Bool) (a1_1:ByteArray) (a1_2:Bool) (a1_3:ByteArray) (a1_4:Bool) (a1_5:ByteArray) (a1_6:Bool) (a1_7:ByteArray) (a1_8:Bool) (a1_9:ByteArray) (k:Int×Int×Int→Option R):Option R:=
 let t0:=p_field_Mul a0_0 a0_1 a0_2 a0_3 a0_4 a0_5 a0_6 a0_7 a0_8 a0_9 a0_0 a0_1 a0_2 a0_3 a0_4 a0_5 a0_6 a0_7 a0_8 a0_9
 bif t0 then
 let t1:=f_field_Mul a0_0 a0_1 a0_2 a0_3 a0_4 a0_5 a0_6 a0_7 a0_8 a0_9 a0_0 a0_1 a0_2 a0_3 a0_4 a0_5 a0_6 a0_7 a0_8 a0_9
 let t2:=p_field_Div t1.fst t1.snd.fst t1.snd.snd.fst t1.snd.snd.snd.fst t1.snd.snd.snd.snd.fst t1.snd.snd.snd.snd.snd.fst t1.snd.snd.snd.snd.snd.snd.fst t1.snd.snd.snd.snd.snd.snd.snd.fst t1.snd.snd.snd.snd.snd.snd.snd.snd.fst t1.snd.snd.snd.snd.snd.snd.snd.snd.snd a1_0 a1_1 a1_2 a1_3 a1_4 a1_5 a1_6 a1_7 a1_8 a1_9
 bif t2 then
 let t3:=f_field_Div t1.fst t1.snd.fst t1.snd.snd.fst t1.snd.snd.snd.fst t1.snd.snd.snd.snd.fst t1.snd.snd.snd.snd.snd.fst t1.snd.snd.snd.snd.snd.snd.fst t1.snd.snd.snd.snd.snd.snd.snd.fst t1.snd.snd.snd.snd.snd.snd.snd.snd.fst t1.snd.snd.snd.snd.snd.snd.snd.snd.snd a1_0 a1_1 a1_2 a1_3 a1_4 a1_5 a1_6 a1_7 a1_8 a1_9
 bif t3.snd.snd.snd.snd.snd.snd.snd.snd.snd.snd !=0 then k (0,0,t3.snd.snd.snd.snd.snd.snd.snd.snd.snd.snd) else
 let t4:=p_field_Of 281474976710656
 bif t4 then
 let t5:=f_field_Of 281474976710656
 let t6:=p_field_Mul t3.fst t3.snd.fst t3.snd.snd.fst t3.snd.snd.snd.fst t3.snd.snd.snd.snd.fst t3.snd.snd.snd.snd.snd.fst t3.snd.snd.snd.snd.snd.snd.fst t3.snd.snd.snd.snd.snd.snd.snd.fst t3.snd.snd.snd.snd.snd.snd.snd.snd.fst t3.snd.snd.snd.snd.snd.snd.snd.snd.snd.fst t5.fst t5.snd.fst t5.snd.snd.fst t5.snd.snd.snd.fst t5.snd.snd.snd.snd.fst t5.snd.snd.snd.snd.snd.fst t5.snd.snd.snd.snd.snd.snd.fst t5.snd.snd.snd.snd.snd.snd.snd.fst t5.snd.snd.snd.snd.snd.snd.snd.snd.fst t5.snd.snd.snd.snd.snd.snd.snd.snd.snd
 bif t6 then
 let t7:=f_field_Mul t3.fst t3.snd.fst t3.snd.snd.fst t3.snd.snd.snd.fst t3.snd.snd.snd.snd.fst t3.snd.snd.snd.snd.snd.fst t3.snd.snd.snd.snd.snd.snd.fst t3.snd.snd.snd.snd.snd.snd.snd.fst t3.snd.snd.snd.snd.snd.snd.snd.snd.fst t3.snd.snd.snd.snd.snd.snd.snd.snd.snd.fst t5.fst t5.snd.fst t5.snd.snd.fst t5.snd.snd.snd.fst t5.snd.snd.snd.snd.fst t5.snd.snd.snd.snd.snd.fst t5.snd.snd.snd.snd.snd.snd.fst t5.snd.snd.snd.snd.snd.snd.snd.fst t5.snd.snd.snd.snd.snd.snd.snd.snd.fst t5.snd.snd.snd.snd.snd.snd.snd.snd.snd
 bif dqOk {fO:=f_field_Of,pO:=p_field_Of,fC:=f_field_Cmp,pC:=p_field_Cmp} {n0:=t7.fst,s0:=t7.snd.fst,n1:=t7.snd.snd.fst,s1:=t7.snd.snd.snd.fst,n2:=t7.snd.snd.snd.snd.fst,s2:=t7.snd.snd.snd.snd.snd.fst,n3:=t7.snd.snd.snd.snd.snd.snd.fst,s3:=t7.snd.snd.snd.snd.snd.snd.snd.fst,n4:=t7.snd.snd.snd.snd.snd.snd.snd.snd.fst,s4:=t7.snd.snd.snd.snd.snd.snd.snd.snd.snd} then
 let t8:=p_field_Of (IntKind.i64.wrap (dqb (dqT {fO:=f_field_Of,pO:=p_field_Of,fC:=f_field_Cmp,pC:=p_field_Cmp} {n0:=t7.fst,s0:=t7.snd.fst,n1:=t7.snd.snd.fst,s1:=t7.snd.snd.snd.fst,n2:=t7.snd.snd.snd.snd.fst,s2:=t7.snd.snd.snd.snd.snd.fst,n3:=t7.snd.snd.snd.snd.snd.snd.fst,s3:=t7.snd.snd.snd.snd.snd.snd.snd.fst,n4:=t7.snd.snd.snd.snd.snd.snd.snd.snd.fst,s4:=t7.snd.snd.snd.snd.snd.snd.snd.snd.snd}) 32 0*dqb (dqT {fO:=f_field_Of,pO:=p_field_Of,fC:=f_field_Cmp,pC:=p_field_Cmp} {n0:=t7.fst,s0:=t7.snd.fst,n1:=t7.snd.snd.fst,s1:=t7.snd.snd.snd.fst,n2:=t7.snd.snd.snd.snd.fst,s2:=t7.snd.snd.snd.snd.snd.fst,n3:=t7.snd.snd.snd.snd.snd.snd.fst,s3:=t7.snd.snd.snd.snd.snd.snd.snd.fst,n4:=t7.snd.snd.snd.snd.snd.snd.snd.snd.fst,s4:=t7.snd.snd.snd.snd.snd.snd.snd.snd.snd}) 32 0))
 bif t8 then
 let t9:=f_field_Of (IntKind.i64.wrap (dqb (dqT {fO:=f_field_Of,pO:=p_field_Of,fC:=f_field_Cmp,pC:=p_field_Cmp} {n0:=t7.fst,s0:=t7.snd.fst,n1:=t7.snd.snd.fst,s1:=t7.snd.snd.snd.fst,n2:=t7.snd.snd.snd.snd.fst,s2:=t7.snd.snd.snd.snd.snd.fst,n3:=t7.snd.snd.snd.snd.snd.snd.fst,s3:=t7.snd.snd.snd.snd.snd.snd.snd.fst,n4:=t7.snd.snd.snd.snd.snd.snd.snd.snd.fst,s4:=t7.snd.snd.snd.snd.snd.snd.snd.snd.snd}) 32 0*dqb (dqT {fO:=f_field_Of,pO:=p_field_Of,fC:=f_field_Cmp,pC:=p_field_Cmp} {n0:=t7.fst,s0:=t7.snd.fst,n1:=t7.snd.snd.fst,s1:=t7.snd.snd.snd.fst,n2:=t7.snd.snd.snd.snd.fst,s2:=t7.snd.snd.snd.snd.snd.fst,n3:=t7.snd.snd.snd.snd.snd.snd.fst,s3:=t7.snd.snd.snd.snd.snd.snd.snd.fst,n4:=t7.snd.snd.snd.snd.snd.snd.snd.snd.fst,s4:=t7.snd.snd.snd.snd.snd.snd.snd.snd.snd}) 32 0))
 let t10:=p_field_Cmp t9.fst t9.snd.fst t9.snd.snd.fst t9.snd.snd.snd.fst t9.snd.snd.snd.snd.fst t9.snd.snd.snd.snd.snd.fst t9.snd.snd.snd.snd.snd.snd.fst t9.snd.snd.snd.snd.snd.snd.snd.fst t9.snd.snd.snd.snd.snd.snd.snd.snd.fst t9.snd.snd.snd.snd.snd.snd.snd.snd.snd t7.fst t7.snd.fst t7.snd.snd.fst t7.snd.snd.snd.fst t7.snd.snd.snd.snd.fst t7.snd.snd.snd.snd.snd.fst t7.snd.snd.snd.snd.snd.snd.fst t7.snd.snd.snd.snd.snd.snd.snd.fst t7.snd.snd.snd.snd.snd.snd.snd.snd.fst t7.snd.snd.snd.snd.snd.snd.snd.snd.snd
 bif t10 then
 let t11:=f_field_Cmp t9.fst t9.snd.fst t9.snd.snd.fst t9.snd.snd.snd.fst t9.snd.snd.snd.snd.fst t9.snd.snd.snd.snd.snd.fst t9.snd.snd.snd.snd.snd.snd.fst t9.snd.snd.snd.snd.snd.snd.snd.fst t9.snd.snd.snd.snd.snd.snd.snd.snd.fst t9.snd.snd.snd.snd.snd.snd.snd.snd.snd t7.fst t7.snd.fst t7.snd.snd.fst t7.snd.snd.snd.fst t7.snd.snd.snd.snd.fst t7.snd.snd.snd.snd.snd.fst t7.snd.snd.snd.snd.snd.snd.fst t7.snd.snd.snd.snd.snd.snd.snd.fst t7.snd.snd.snd.snd.snd.snd.snd.snd.fst t7.snd.snd.snd.snd.snd.snd.snd.snd.snd
 bif decide (t11<0) then
 let t12:=p_field_Sign a0_0 a0_1 a0_2 a0_3 a0_4 a0_5 a0_6 a0_7 a0_8 a0_9
 bif t12 then
 let t13:=f_field_Sign a0_0 a0_1 a0_2 a0_3 a0_4 a0_5 a0_6 a0_7 a0_8 a0_9
 bif decide (t13<0) then bif decide (IntKind.i64.wrap (0-IntKind.i64.wrap (dqb (dqT {fO:=f_field_Of,pO:=p_field_Of,fC:=f_field_Cmp,pC:=p_field_Cmp} {n0:=t7.fst,s0:=t7.snd.fst,n1:=t7.snd.snd.fst,s1:=t7.snd.snd.snd.fst,n2:=t7.snd.snd.snd.snd.fst,s2:=t7.snd.snd.snd.snd.snd.fst,n3:=t7.snd.snd.snd.snd.snd.snd.fst,s3:=t7.snd.snd.snd.snd.snd.snd.snd.fst,n4:=t7.snd.snd.snd.snd.snd.snd.snd.snd.fst,s4:=t7.snd.snd.snd.snd.snd.snd.snd.snd.snd}) 32 0+1))≤IntKind.i64.wrap (0-dqb (dqT {fO:=f_field_Of,pO:=p_field_Of,fC:=f_field_Cmp,pC:=p_field_Cmp} {n0:=t7.fst,s0:=t7.snd.fst,n1:=t7.snd.snd.fst,s1:=t7.snd.snd.snd.fst,n2:=t7.snd.snd.snd.snd.fst,s2:=t7.snd.snd.snd.snd.snd.fst,n3:=t7.snd.snd.snd.snd.snd.snd.fst,s3:=t7.snd.snd.snd.snd.snd.snd.snd.fst,n4:=t7.snd.snd.snd.snd.snd.snd.snd.snd.fst,s4:=t7.snd.snd.snd.snd.snd.snd.snd.snd.snd}) 32 0)) then bif decide (IntKind.i64.wrap (0-IntKind.i64.wrap (dqb (dqT {fO:=f_field_Of,pO:=p_field_Of,fC:=f_field_Cmp,pC:=p_field_Cmp} {n0:=t7.fst,s0:=t7.snd.fst,n1:=t7.snd.snd.fst,s1:=t7.snd.snd.snd.fst,n2:=t7.snd.snd.snd.snd.fst,s2:=t7.snd.snd.snd.snd.snd.fst,n3:=t7.snd.snd.snd.snd.snd.snd.fst,s3:=t7.snd.snd.snd.snd.snd.snd.snd.fst,n4:=t7.snd.snd.snd.snd.snd.snd.snd.snd.fst,s4:=t7.snd.snd.snd.snd.snd.snd.snd.snd.snd}) 32 0+1))≥ -1073741824) then bif !decide (IntKind.i64.wrap (0-dqb (dqT {fO:=f_field_Of,pO:=p_field_Of,fC:=f_field_Cmp,pC:=p_field_Cmp} {n0:=t7.fst,s0:=t7.snd.fst,n1:=t7.snd.snd.fst,s1:=t7.snd.snd.snd.fst,n2:=t7.snd.snd.snd.snd.fst,s2:=t7.snd.snd.snd.snd.snd.fst,n3:=t7.snd.snd.snd.snd.snd.snd.fst,s3:=t7.snd.snd.snd.snd.snd.snd.snd.fst,n4:=t7.snd.snd.snd.snd.snd.snd.snd.snd.fst,s4:=t7.snd.snd.snd.snd.snd.snd.snd.snd.snd}) 32 0)≤1073741824) then k (0,0,3) else k (IntKind.i64.wrap (0-IntKind.i64.wrap (dqb (dqT {fO:=f_field_Of,pO:=p_field_Of,fC:=f_field_Cmp,pC:=p_field_Cmp} {n0:=t7.fst,s0:=t7.snd.fst,n1:=t7.snd.snd.fst,s1:=t7.snd.snd.snd.fst,n2:=t7.snd.snd.snd.snd.fst,s2:=t7.snd.snd.snd.snd.snd.fst,n3:=t7.snd.snd.snd.snd.snd.snd.fst,s3:=t7.snd.snd.snd.snd.snd.snd.snd.fst,n4:=t7.snd.snd.snd.snd.snd.snd.snd.snd.fst,s4:=t7.snd.snd.snd.snd.snd.snd.snd.snd.snd}) 32 0+1)),IntKind.i64.wrap (0-dqb (dqT {fO:=f_field_Of,pO:=p_field_Of,fC:=f_field_Cmp,pC:=p_field_Cmp} {n0:=t7.fst,s0:=t7.snd.fst,n1:=t7.snd.snd.fst,s1:=t7.snd.snd.snd.fst,n2:=t7.snd.snd.snd.snd.fst,s2:=t7.snd.snd.snd.snd.snd.fst,n3:=t7.snd.snd.snd.snd.snd.snd.fst,s3:=t7.snd.snd.snd.snd.snd.snd.snd.fst,n4:=t7.snd.snd.snd.snd.snd.snd.snd.snd.fst,s4:=t7.snd.snd.snd.snd.snd.snd.snd.snd.snd}) 32 0),0) else k (0,0,3) else k (0,0,3) else bif decide (dqb (dqT {fO:=f_field_Of,pO:=p_field_Of,fC:=f_field_Cmp,pC:=p_field_Cmp} {n0:=t7.fst,s0:=t7.snd.fst,n1:=t7.snd.snd.fst,s1:=t7.snd.snd.snd.fst,n2:=t7.snd.snd.snd.snd.fst,s2:=t7.snd.snd.snd.snd.snd.fst,n3:=t7.snd.snd.snd.snd.snd.snd.fst,s3:=t7.snd.snd.snd.snd.snd.snd.snd.fst,n4:=t7.snd.snd.snd.snd.snd.snd.snd.snd.fst,s4:=t7.snd.snd.snd.snd.snd.snd.snd.snd.snd}) 32 0≤IntKind.i64.wrap (dqb (dqT {fO:=f_field_Of,pO:=p_field_Of,fC:=f_field_Cmp,pC:=p_field_Cmp} {n0:=t7.fst,s0:=t7.snd.fst,n1:=t7.snd.snd.fst,s1:=t7.snd.snd.snd.fst,n2:=t7.snd.snd.snd.snd.fst,s2:=t7.snd.snd.snd.snd.snd.fst,n3:=t7.snd.snd.snd.snd.snd.snd.fst,s3:=t7.snd.snd.snd.snd.snd.snd.snd.fst,n4:=t7.snd.snd.snd.snd.snd.snd.snd.snd.fst,s4:=t7.snd.snd.snd.snd.snd.snd.snd.snd.snd}) 32 0+1)) then
 bif decide (dqb (dqT {fO:=f_field_Of,pO:=p_field_Of,fC:=f_field_Cmp,pC:=p_field_Cmp} {n0:=t7.fst,s0:=t7.snd.fst,n1:=t7.snd.snd.fst,s1:=t7.snd.snd.snd.fst,n2:=t7.snd.snd.snd.snd.fst,s2:=t7.snd.snd.snd.snd.snd.fst,n3:=t7.snd.snd.snd.snd.snd.snd.fst,s3:=t7.snd.snd.snd.snd.snd.snd.snd.fst,n4:=t7.snd.snd.snd.snd.snd.snd.snd.snd.fst,s4:=t7.snd.snd.snd.snd.snd.snd.snd.snd.snd}) 32 0≥ -1073741824) then bif !decide (IntKind.i64.wrap (dqb (dqT {fO:=f_field_Of,pO:=p_field_Of,fC:=f_field_Cmp,pC:=p_field_Cmp} {n0:=t7.fst,s0:=t7.snd.fst,n1:=t7.snd.snd.fst,s1:=t7.snd.snd.snd.fst,n2:=t7.snd.snd.snd.snd.fst,s2:=t7.snd.snd.snd.snd.snd.fst,n3:=t7.snd.snd.snd.snd.snd.snd.fst,s3:=t7.snd.snd.snd.snd.snd.snd.snd.fst,n4:=t7.snd.snd.snd.snd.snd.snd.snd.snd.fst,s4:=t7.snd.snd.snd.snd.snd.snd.snd.snd.snd}) 32 0+1)≤1073741824) then k (0,0,3) else k (dqb (dqT {fO:=f_field_Of,pO:=p_field_Of,fC:=f_field_Cmp,pC:=p_field_Cmp} {n0:=t7.fst,s0:=t7.snd.fst,n1:=t7.snd.snd.fst,s1:=t7.snd.snd.snd.fst,n2:=t7.snd.snd.snd.snd.fst,s2:=t7.snd.snd.snd.snd.snd.fst,n3:=t7.snd.snd.snd.snd.snd.snd.fst,s3:=t7.snd.snd.snd.snd.snd.snd.snd.fst,n4:=t7.snd.snd.snd.snd.snd.snd.snd.snd.fst,s4:=t7.snd.snd.snd.snd.snd.snd.snd.snd.snd}) 32 0,IntKind.i64.wrap (dqb (dqT {fO:=f_field_Of,pO:=p_field_Of,fC:=f_field_Cmp,pC:=p_field_Cmp} {n0:=t7.fst,s0:=t7.snd.fst,n1:=t7.snd.snd.fst,s1:=t7.snd.snd.snd.fst,n2:=t7.snd.snd.snd.snd.fst,s2:=t7.snd.snd.snd.snd.snd.fst,n3:=t7.snd.snd.snd.snd.snd.snd.fst,s3:=t7.snd.snd.snd.snd.snd.snd.snd.fst,n4:=t7.snd.snd.snd.snd.snd.snd.snd.snd.fst,s4:=t7.snd.snd.snd.snd.snd.snd.snd.snd.snd}) 32 0+1),0) else k (0,0,3) else k (0,0,3) else none else
 let t14:=p_field_Sign a0_0 a0_1 a0_2 a0_3 a0_4 a0_5 a0_6 a0_7 a0_8 a0_9
 bif t14 then
 let t15:=f_field_Sign a0_0 a0_1 a0_2 a0_3 a0_4 a0_5 a0_6 a0_7 a0_8 a0_9
 bif decide (t15<0) then bif decide (IntKind.i64.wrap (0-dqb (dqT {fO:=f_field_Of,pO:=p_field_Of,fC:=f_field_Cmp,pC:=p_field_Cmp} {n0:=t7.fst,s0:=t7.snd.fst,n1:=t7.snd.snd.fst,s1:=t7.snd.snd.snd.fst,n2:=t7.snd.snd.snd.snd.fst,s2:=t7.snd.snd.snd.snd.snd.fst,n3:=t7.snd.snd.snd.snd.snd.snd.fst,s3:=t7.snd.snd.snd.snd.snd.snd.snd.fst,n4:=t7.snd.snd.snd.snd.snd.snd.snd.snd.fst,s4:=t7.snd.snd.snd.snd.snd.snd.snd.snd.snd}) 32 0)≤IntKind.i64.wrap (0-dqb (dqT {fO:=f_field_Of,pO:=p_field_Of,fC:=f_field_Cmp,pC:=p_field_Cmp} {n0:=t7.fst,s0:=t7.snd.fst,n1:=t7.snd.snd.fst,s1:=t7.snd.snd.snd.fst,n2:=t7.snd.snd.snd.snd.fst,s2:=t7.snd.snd.snd.snd.snd.fst,n3:=t7.snd.snd.snd.snd.snd.snd.fst,s3:=t7.snd.snd.snd.snd.snd.snd.snd.fst,n4:=t7.snd.snd.snd.snd.snd.snd.snd.snd.fst,s4:=t7.snd.snd.snd.snd.snd.snd.snd.snd.snd}) 32 0)) then bif decide (IntKind.i64.wrap (0-dqb (dqT {fO:=f_field_Of,pO:=p_field_Of,fC:=f_field_Cmp,pC:=p_field_Cmp} {n0:=t7.fst,s0:=t7.snd.fst,n1:=t7.snd.snd.fst,s1:=t7.snd.snd.snd.fst,n2:=t7.snd.snd.snd.snd.fst,s2:=t7.snd.snd.snd.snd.snd.fst,n3:=t7.snd.snd.snd.snd.snd.snd.fst,s3:=t7.snd.snd.snd.snd.snd.snd.snd.fst,n4:=t7.snd.snd.snd.snd.snd.snd.snd.snd.fst,s4:=t7.snd.snd.snd.snd.snd.snd.snd.snd.snd}) 32 0)≥ -1073741824) then bif !decide (IntKind.i64.wrap (0-dqb (dqT {fO:=f_field_Of,pO:=p_field_Of,fC:=f_field_Cmp,pC:=p_field_Cmp} {n0:=t7.fst,s0:=t7.snd.fst,n1:=t7.snd.snd.fst,s1:=t7.snd.snd.snd.fst,n2:=t7.snd.snd.snd.snd.fst,s2:=t7.snd.snd.snd.snd.snd.fst,n3:=t7.snd.snd.snd.snd.snd.snd.fst,s3:=t7.snd.snd.snd.snd.snd.snd.snd.fst,n4:=t7.snd.snd.snd.snd.snd.snd.snd.snd.fst,s4:=t7.snd.snd.snd.snd.snd.snd.snd.snd.snd}) 32 0)≤1073741824) then k (0,0,3) else k (IntKind.i64.wrap (0-dqb (dqT {fO:=f_field_Of,pO:=p_field_Of,fC:=f_field_Cmp,pC:=p_field_Cmp} {n0:=t7.fst,s0:=t7.snd.fst,n1:=t7.snd.snd.fst,s1:=t7.snd.snd.snd.fst,n2:=t7.snd.snd.snd.snd.fst,s2:=t7.snd.snd.snd.snd.snd.fst,n3:=t7.snd.snd.snd.snd.snd.snd.fst,s3:=t7.snd.snd.snd.snd.snd.snd.snd.fst,n4:=t7.snd.snd.snd.snd.snd.snd.snd.snd.fst,s4:=t7.snd.snd.snd.snd.snd.snd.snd.snd.snd}) 32 0),IntKind.i64.wrap (0-dqb (dqT {fO:=f_field_Of,pO:=p_field_Of,fC:=f_field_Cmp,pC:=p_field_Cmp} {n0:=t7.fst,s0:=t7.snd.fst,n1:=t7.snd.snd.fst,s1:=t7.snd.snd.snd.fst,n2:=t7.snd.snd.snd.snd.fst,s2:=t7.snd.snd.snd.snd.snd.fst,n3:=t7.snd.snd.snd.snd.snd.snd.fst,s3:=t7.snd.snd.snd.snd.snd.snd.snd.fst,n4:=t7.snd.snd.snd.snd.snd.snd.snd.snd.fst,s4:=t7.snd.snd.snd.snd.snd.snd.snd.snd.snd}) 32 0),0) else k (0,0,3) else k (0,0,3) else bif decide (dqb (dqT {fO:=f_field_Of,pO:=p_field_Of,fC:=f_field_Cmp,pC:=p_field_Cmp} {n0:=t7.fst,s0:=t7.snd.fst,n1:=t7.snd.snd.fst,s1:=t7.snd.snd.snd.fst,n2:=t7.snd.snd.snd.snd.fst,s2:=t7.snd.snd.snd.snd.snd.fst,n3:=t7.snd.snd.snd.snd.snd.snd.fst,s3:=t7.snd.snd.snd.snd.snd.snd.snd.fst,n4:=t7.snd.snd.snd.snd.snd.snd.snd.snd.fst,s4:=t7.snd.snd.snd.snd.snd.snd.snd.snd.snd}) 32 0≤dqb (dqT {fO:=f_field_Of,pO:=p_field_Of,fC:=f_field_Cmp,pC:=p_field_Cmp} {n0:=t7.fst,s0:=t7.snd.fst,n1:=t7.snd.snd.fst,s1:=t7.snd.snd.snd.fst,n2:=t7.snd.snd.snd.snd.fst,s2:=t7.snd.snd.snd.snd.snd.fst,n3:=t7.snd.snd.snd.snd.snd.snd.fst,s3:=t7.snd.snd.snd.snd.snd.snd.snd.fst,n4:=t7.snd.snd.snd.snd.snd.snd.snd.snd.fst,s4:=t7.snd.snd.snd.snd.snd.snd.snd.snd.snd}) 32 0) then
 bif decide (dqb (dqT {fO:=f_field_Of,pO:=p_field_Of,fC:=f_field_Cmp,pC:=p_field_Cmp} {n0:=t7.fst,s0:=t7.snd.fst,n1:=t7.snd.snd.fst,s1:=t7.snd.snd.snd.fst,n2:=t7.snd.snd.snd.snd.fst,s2:=t7.snd.snd.snd.snd.snd.fst,n3:=t7.snd.snd.snd.snd.snd.snd.fst,s3:=t7.snd.snd.snd.snd.snd.snd.snd.fst,n4:=t7.snd.snd.snd.snd.snd.snd.snd.snd.fst,s4:=t7.snd.snd.snd.snd.snd.snd.snd.snd.snd}) 32 0≥ -1073741824) then bif !decide (dqb (dqT {fO:=f_field_Of,pO:=p_field_Of,fC:=f_field_Cmp,pC:=p_field_Cmp} {n0:=t7.fst,s0:=t7.snd.fst,n1:=t7.snd.snd.fst,s1:=t7.snd.snd.snd.fst,n2:=t7.snd.snd.snd.snd.fst,s2:=t7.snd.snd.snd.snd.snd.fst,n3:=t7.snd.snd.snd.snd.snd.snd.fst,s3:=t7.snd.snd.snd.snd.snd.snd.snd.fst,n4:=t7.snd.snd.snd.snd.snd.snd.snd.snd.fst,s4:=t7.snd.snd.snd.snd.snd.snd.snd.snd.snd}) 32 0≤1073741824) then k (0,0,3) else k (dqb (dqT {fO:=f_field_Of,pO:=p_field_Of,fC:=f_field_Cmp,pC:=p_field_Cmp} {n0:=t7.fst,s0:=t7.snd.fst,n1:=t7.snd.snd.fst,s1:=t7.snd.snd.snd.fst,n2:=t7.snd.snd.snd.snd.fst,s2:=t7.snd.snd.snd.snd.snd.fst,n3:=t7.snd.snd.snd.snd.snd.snd.fst,s3:=t7.snd.snd.snd.snd.snd.snd.snd.fst,n4:=t7.snd.snd.snd.snd.snd.snd.snd.snd.fst,s4:=t7.snd.snd.snd.snd.snd.snd.snd.snd.snd}) 32 0,dqb (dqT {fO:=f_field_Of,pO:=p_field_Of,fC:=f_field_Cmp,pC:=p_field_Cmp} {n0:=t7.fst,s0:=t7.snd.fst,n1:=t7.snd.snd.fst,s1:=t7.snd.snd.snd.fst,n2:=t7.snd.snd.snd.snd.fst,s2:=t7.snd.snd.snd.snd.snd.fst,n3:=t7.snd.snd.snd.snd.snd.snd.fst,s3:=t7.snd.snd.snd.snd.snd.snd.snd.fst,n4:=t7.snd.snd.snd.snd.snd.snd.snd.snd.fst,s4:=t7.snd.snd.snd.snd.snd.snd.snd.snd.snd}) 32 0,0) else k (0,0,3) else k (0,0,3) else none else none else none else none else none else none else none else none
set_option maxRecDepth 100000 in
theorem direction_quotient.run (f_field_Mul:Bool→ByteArray→Bool→ByteArray→Bool→ByteArray→Bool→ByteArray→Bool→ByteArray→Bool→ByteArray→Bool→ByteArray→Bool→ByteArray→Bool→ByteArray→Bool→ByteArray→(Bool×ByteArray×Bool×ByteArray×Bool×ByteArray×Bool×ByteArray×Bool×ByteArray)) (p_field_Mul:Bool→ByteArray→Bool→ByteArray→Bool→ByteArray→Bool→ByteArray→Bool→ByteArray→Bool→ByteArray→Bool→ByteArray→Bool→ByteArray→Bool→ByteArray→Bool→ByteArray→Bool) (f_field_Div:Bool→ByteArray→Bool→ByteArray→Bool→ByteArray→Bool→ByteArray→Bool→ByteArray→Bool→ByteArray→Bool→ByteArray→Bool→ByteArray→Bool→ByteArray→Bool→ByteArray→(Bool×ByteArray×Bool×ByteArray×Bool×ByteArray×Bool×ByteArray×Bool×ByteArray×Int)) (p_field_Div:Bool→ByteArray→Bool→ByteArray→Bool→ByteArray→Bool→ByteArray→Bool→ByteArray→Bool→ByteArray→Bool→ByteArray→Bool→ByteArray→Bool→ByteArray→Bool→ByteArray→Bool) (f_field_Of:Int→(Bool×ByteArray×Bool×ByteArray×Bool×ByteArray×Bool×ByteArray×Bool×ByteArray)) (p_field_Of:Int→Bool) (f_field_Cmp:Bool→ByteArray→Bool→ByteArray→Bool→ByteArray→Bool→ByteArray→Bool→ByteArray→Bool→ByteArray→Bool→ByteArray→Bool→ByteArray→Bool→ByteArray→Bool→ByteArray→(Int)) (p_field_Cmp:Bool→ByteArray→Bool→ByteArray→Bool→ByteArray→Bool→ByteArray→Bool→ByteArray→Bool→ByteArray→Bool→ByteArray→Bool→ByteArray→Bool→ByteArray→Bool→ByteArray→Bool) (f_field_Sign:Bool→ByteArray→Bool→ByteArray→Bool→ByteArray→Bool→ByteArray→Bool→ByteArray→(Int)) (p_field_Sign:Bool→ByteArray→Bool→ByteArray→Bool→ByteArray→Bool→ByteArray→Bool→ByteArray→Bool) (a0_0:Bool) (a0_1:ByteArray) (a0_2:Bool) (a0_3:ByteArray) (a0_4:Bool) (a0_5:ByteArray) (a0_6:Bool) (a0_7:ByteArray) (a0_8:Bool) (a0_9:ByteArray) (a1_0:Bool) (a1_1:ByteArray) (a1_2:Bool) (a1_3:ByteArray) (a1_4:Bool) (a1_5:ByteArray) (a1_6:Bool) (a1_7:ByteArray) (a1_8:Bool) (a1_9:ByteArray):xfn Tryz.prog ⟨[(110,field_Mul.sp f_field_Mul p_field_Mul),(113,field_Div.sp f_field_Div p_field_Div),(114,field_Of.sp f_field_Of p_field_Of),(115,field_Cmp.sp f_field_Cmp p_field_Cmp),(116,field_Sign.sp f_field_Sign p_field_Sign)],[(65,Tryz.f65)],[]⟩ [(0,dq.t ⟨f_field_Of,p_field_Of,f_field_Cmp,p_field_Cmp⟩)] 60 Tryz.f63 [.agg ⟨[.bool a0_0,.string a0_1,.bool a0_2,.string a0_3,.bool a0_4,.string a0_5,.bool a0_6,.string a0_7,.bool a0_8,.string a0_9]⟩,.agg ⟨[.bool a1_0,.string a1_1,.bool a1_2,.string a1_3,.bool a1_4,.string a1_5,.bool a1_6,.string a1_7,.bool a1_8,.string a1_9]⟩] []=direction_quotient.K f_field_Mul p_field_Mul f_field_Div p_field_Div f_field_Of p_field_Of f_field_Cmp p_field_Cmp f_field_Sign p_field_Sign a0_0 a0_1 a0_2 a0_3 a0_4 a0_5 a0_6 a0_7 a0_8 a0_9 a1_0 a1_1 a1_2 a1_3 a1_4 a1_5 a1_6 a1_7 a1_8 a1_9 (fun r=>some (.tuple ⟨[.agg ⟨[.int .i64 r.1,.int .i64 r.2.1]⟩,.int .i64 r.2.2]⟩,[])):=by kernel_rfl
noncomputable def direction_quotient.o (a0_0:Bool) (a0_1:ByteArray) (a0_2:Bool) (a0_3:ByteArray) (a0_4:Bool) (a0_5:ByteArray) (a0_6:Bool) (a0_7:ByteArray) (a0_8:Bool) (a0_9:ByteArray) (a1_0:Bool) (a1_1:ByteArray) (a1_2:Bool) (a1_3:ByteArray) (a1_4:Bool) (a1_5:ByteArray) (a1_6:Bool) (a1_7:ByteArray) (a1_8:Bool) (a1_9:ByteArray):Option (Int×Int×Int):=direction_quotient.K field_Mul field_Mul.pre field_Div field_Div.pre field_Of field_Of.pre field_Cmp field_Cmp.pre field_Sign field_Sign.pre a0_0 a0_1 a0_2 a0_3 a0_4 a0_5 a0_6 a0_7 a0_8 a0_9 a1_0 a1_1 a1_2 a1_3 a1_4 a1_5 a1_6 a1_7 a1_8 a1_9 some
noncomputable def direction_quotient.pre (a0_0:Bool) (a0_1:ByteArray) (a0_2:Bool) (a0_3:ByteArray) (a0_4:Bool) (a0_5:ByteArray) (a0_6:Bool) (a0_7:ByteArray) (a0_8:Bool) (a0_9:ByteArray) (a1_0:Bool) (a1_1:ByteArray) (a1_2:Bool) (a1_3:ByteArray) (a1_4:Bool) (a1_5:ByteArray) (a1_6:Bool) (a1_7:ByteArray) (a1_8:Bool) (a1_9:ByteArray):Bool:=(direction_quotient.o a0_0 a0_1 a0_2 a0_3 a0_4 a0_5 a0_6 a0_7 a0_8 a0_9 a1_0 a1_1 a1_2 a1_3 a1_4 a1_5 a1_6 a1_7 a1_8 a1_9).isSome
noncomputable def direction_quotient (a0_0:Bool) (a0_1:ByteArray) (a0_2:Bool) (a0_3:ByteArray) (a0_4:Bool) (a0_5:ByteArray) (a0_6:Bool) (a0_7:ByteArray) (a0_8:Bool) (a0_9:ByteArray) (a1_0:Bool) (a1_1:ByteArray) (a1_2:Bool) (a1_3:ByteArray) (a1_4:Bool) (a1_5:ByteArray) (a1_6:Bool) (a1_7:ByteArray) (a1_8:Bool) (a1_9:ByteArray):Int×Int×Int:=(direction_quotient.o a0_0 a0_1 a0_2 a0_3 a0_4 a0_5 a0_6 a0_7 a0_8 a0_9 a1_0 a1_1 a1_2 a1_3 a1_4 a1_5 a1_6 a1_7 a1_8 a1_9).getD default
theorem direction_quotient.nat {R:Type} (f_field_Mul:Bool→ByteArray→Bool→ByteArray→Bool→ByteArray→Bool→ByteArray→Bool→ByteArray→Bool→ByteArray→Bool→ByteArray→Bool→ByteArray→Bool→ByteArray→Bool→ByteArray→(Bool×ByteArray×Bool×ByteArray×Bool×ByteArray×Bool×ByteArray×Bool×ByteArray)) (p_field_Mul:Bool→ByteArray→Bool→ByteArray→Bool→ByteArray→Bool→ByteArray→Bool→ByteArray→Bool→ByteArray→Bool→ByteArray→Bool→ByteArray→Bool→ByteArray→Bool→ByteArray→Bool) (f_field_Div:Bool→ByteArray→Bool→ByteArray→Bool→ByteArray→Bool→ByteArray→Bool→ByteArray→Bool→ByteArray→Bool→ByteArray→Bool→ByteArray→Bool→ByteArray→Bool→ByteArray→(Bool×ByteArray×Bool×ByteArray×Bool×ByteArray×Bool×ByteArray×Bool×ByteArray×Int)) (p_field_Div:Bool→ByteArray→Bool→ByteArray→Bool→ByteArray→Bool→ByteArray→Bool→ByteArray→Bool→ByteArray→Bool→ByteArray→Bool→ByteArray→Bool→ByteArray→Bool→ByteArray→Bool) (f_field_Of:Int→(Bool×ByteArray×Bool×ByteArray×Bool×ByteArray×Bool×ByteArray×Bool×ByteArray)) (p_field_Of:Int→Bool) (f_field_Cmp:Bool→ByteArray→Bool→ByteArray→Bool→ByteArray→Bool→ByteArray→Bool→ByteArray→Bool→ByteArray→Bool→ByteArray→Bool→ByteArray→Bool→ByteArray→Bool→ByteArray→(Int)) (p_field_Cmp:Bool→ByteArray→Bool→ByteArray→Bool→ByteArray→Bool→ByteArray→Bool→ByteArray→Bool→ByteArray→Bool→ByteArray→Bool→ByteArray→Bool→ByteArray→Bool→ByteArray→Bool) (f_field_Sign:Bool→ByteArray→Bool→ByteArray→Bool→ByteArray→Bool→ByteArray→Bool→ByteArray→(Int)) (p_field_Sign:Bool→ByteArray→Bool→ByteArray→Bool→ByteArray→Bool→ByteArray→Bool→ByteArray→Bool) (a0_0:Bool) (a0_1:ByteArray) (a0_2:Bool) (a0_3:ByteArray) (a0_4:Bool) (a0_5:ByteArray) (a0_6:Bool) (a0_7:ByteArray) (a0_8:Bool) (a0_9:ByteArray) (a1_0:Bool) (a1_1:ByteArray) (a1_2:Bool) (a1_3:ByteArray) (a1_4:Bool) (a1_5:ByteArray) (a1_6:Bool) (a1_7:ByteArray) (a1_8:Bool) (a1_9:ByteArray) (k:Int×Int×Int→Option R):direction_quotient.K f_field_Mul p_field_Mul f_field_Div p_field_Div f_field_Of p_field_Of f_field_Cmp p_field_Cmp f_field_Sign p_field_Sign a0_0 a0_1 a0_2 a0_3 a0_4 a0_5 a0_6 a0_7 a0_8 a0_9 a1_0 a1_1 a1_2 a1_3 a1_4 a1_5 a1_6 a1_7 a1_8 a1_9 k=(direction_quotient.K f_field_Mul p_field_Mul f_field_Div p_field_Div f_field_Of p_field_Of f_field_Cmp p_field_Cmp f_field_Sign p_field_Sign a0_0 a0_1 a0_2 a0_3 a0_4 a0_5 a0_6 a0_7 a0_8 a0_9 a1_0 a1_1 a1_2 a1_3 a1_4 a1_5 a1_6 a1_7 a1_8 a1_9 some).bind k:=by
  simp only [direction_quotient.K,bcond,Option.bind_some,Option.bind_none]
def qcmp (x y:Q):Int:=bif x.ok&&y.ok then (qsub x y).sg else 0
def qmulv (x y:Q):Q:=bif x.ok&&y.ok then qmul x y else Q.zero
def dlh (n:Int) (c s:Bool):Int×Int:=bif c then (bif s then (-(n+1),-n) else (n,n+1)) else (bif s then (-n,-n) else (n,n))
def dchk (r:Int×Int):Int×Int×Int:=bif decide (-1073741824≤r.1)&&decide (r.2≤1073741824) then (r.1,r.2,0) else (0,0,3)
def droot (q:Q):Int:=dqb (fun m=>decide (qcmp (qof (m*m)) q≤0)) 32 0
def dquot (x y:Q):Int×Int×Int:=
  bif (qDiv (qmulv x x) y).2 !=0 then (0,0,(qDiv (qmulv x x) y).2) else
  dchk (dlh (droot (qmulv (qDiv (qmulv x x) y).1 (qof 281474976710656))) (decide (qcmp (qof (droot (qmulv (qDiv (qmulv x x) y).1 (qof 281474976710656))*droot (qmulv (qDiv (qmulv x x) y).1 (qof 281474976710656)))) (qmulv (qDiv (qmulv x x) y).1 (qof 281474976710656))<0)) (decide ((bif x.ok then x.sg else 0)<0)))
theorem dqb_congr {T U:Int→Bool} (h:∀m,0≤m→m<2147483648→T m=U m):∀(k:Nat) (n:Int),0≤n→dqb T k n=dqb U k n
  |0,n,_=>rfl
  | k +1,n,h0=>by
    unfold dqb
    have hb:0≤bq (k+1):=by rw [bq_succ]; exact Int.natCast_nonneg _
    by_cases hm:n+bq (k+1)<2147483648
    · rw [decide_eq_true hm,cond_true,cond_true,h _ (by omega) hm]
      cases U (n+bq (k+1)) with
      |true=>exact dqb_congr h k (n+bq (k+1)) (by omega)
      |false=>exact dqb_congr h k n h0
    · rw [decide_eq_false hm,cond_false,cond_false]
      exact dqb_congr h k _ h0
theorem dqb_range {T:Int→Bool} :∀(k:Nat) (n:Int),0≤n→n<2147483648→0≤dqb T k n∧dqb T k n<2147483648
  |0,n,h0,h1=>⟨h0,h1⟩
  | k +1,n,h0,h1=>by
    unfold dqb
    have hb:0≤bq (k+1):=by rw [bq_succ]; exact Int.natCast_nonneg _
    by_cases hm:n+bq (k+1)<2147483648
    · rw [decide_eq_true hm,cond_true]
      cases T (n+bq (k+1)) with
      |true=>exact dqb_range k (n+bq (k+1)) (by omega) hm
      |false=>exact dqb_range k n h0 h1
    · rw [decide_eq_false hm,cond_false]
      exact dqb_range k _ h0 h1
theorem qmulv_bd {j k:Nat} {x y:Q} (hx:x.Bd j) (hy:y.Bd k):(qmulv x y).Bd (j+k+5):=by
  unfold qmulv
  cases ox:x.ok with
  |false=>exact zero_bd _
  | true=>
    cases oy:y.ok with
    |false=>exact zero_bd _
    |true=>exact qmul_bd hx hy ox oy
theorem qdiv_bd {j k:Nat} {x y:Q} (hx:x.Bd j) (hy:y.Bd k) (ox:x.ok=true) (oy:y.ok=true) (hnz:¬(y.c0=0∧y.c1=0∧y.c2=0∧y.c3=0)):(qdiv x y).Bd (j+7*k+35):=by
  have oa:(cj2 y).ok=true:=by rw [cj2_ok,oy]
  have ba:=cj2_bd hy
  have ot:=qtwo_ok oy
  have bt:(qtwo y).Bd (2*k+5):=(qmul_bd hy ba oy oa).mono (by omega)
  have ob:(cj1 (qtwo y)).ok=true:=by rw [cj1_ok,ot]
  have bb:=cj1_bd bt
  have on:=qone_ok oy
  have bn:(qone y).Bd (4*k+15):=(qmul_bd bt bb ot ob).mono (by omega)
  have oi:=qinv_ok oy hnz
  have bi0:(Q.mk (qone y).d 0 0 0 (qone y).c0).Bd (4*k+15):=⟨bn.d,Bd.zero _,Bd.zero _,Bd.zero _,bn.c0⟩
  have bi:(qinv y).Bd (4*k+15):=low_bd bi0 (qone_ne oy hnz)
  have b3:(qmul x (cj2 y)).Bd (j+k+5):=qmul_bd hx ba ox oa
  have b4:(qmul (cj1 (qtwo y)) (qinv y)).Bd (6*k+25):=(qmul_bd bb bi ob oi).mono (by omega)
  exact (qmul_bd b3 b4 (qmul_ok ox oa) (qmul_ok ob oi)).mono (by omega)
theorem nul_iff {y:Q} (h:y.nul=false):¬(y.c0=0∧y.c1=0∧y.c2=0∧y.c3=0):=by
  rintro ⟨h0,h1,h2,h3⟩
  simp [Q.nul,h0,h1,h2,h3] at h
theorem qDiv_bd {j k:Nat} {x y:Q} (hx:x.Bd j) (hy:y.Bd k):(qDiv x y).1.Bd (j+7*k+35):=by
  unfold qDiv
  cases ox:x.ok with
  |false=>exact zero_bd _
  | true=>
    cases oy:y.ok with
    |false=>exact zero_bd _
    | true=>
      cases on:y.nul with
      |true=>exact zero_bd _
      |false=>exact qdiv_bd hx hy ox oy (nul_iff on)
theorem qof_bd {k:Nat} {n:Int} (h:Bd k n) (hk:1≤k):(qof n).Bd k:=⟨h,Bd.zero _,Bd.zero _,Bd.zero _,Bd.one hk⟩
theorem sq_bd {m:Int} (h:0≤m) (h':m<2147483648):Bd 8 (m*m):=by
  have e:(m.natAbs:Int)=m:=by omega
  have:Bd 4 m:=by
    unfold Bd
    rw [e]
    have:p8 4=4294967296:=by decide
    omega
  exact (this.mul this).mono (by omega)
theorem direction_quotient.os {j k:Nat} {x y:Q} (hx:x.Bd j) (hy:y.Bd k) (hk:1≤k) (h:4*j+14*k+200≤PRM):direction_quotient.o (dI x.c0).1 (dI x.c0).2 (dI x.c1).1 (dI x.c1).2 (dI x.c2).1 (dI x.c2).2 (dI x.c3).1 (dI x.c3).2 (dI x.d).1 (dI x.d).2 (dI y.c0).1 (dI y.c0).2 (dI y.c1).1 (dI y.c1).2 (dI y.c2).1 (dI y.c2).2 (dI y.c3).1 (dI y.c3).2 (dI y.d).1 (dI y.d).2=some (dquot x y):=by
  have m1:=field_Mul.ps hx hx (by omega) (by omega)
  have m1':=field_Mul.es hx hx (by omega) (by omega)
  change _=C5 (qmulv x x) at m1'
  have b1:=qmulv_bd hx hx
  have d1:=field_Div.ps b1 hy hk (by omega)
  have d1':=field_Div.es b1 hy hk (by omega)
  have b2:=qDiv_bd b1 hy
  have o1:=field_Of.ps (n:=281474976710656) (by decide) (by decide)
  have o1':=field_Of.es (n:=281474976710656) (by decide) (by decide)
  change _=C5 (qof 281474976710656) at o1'
  have b3:(qof 281474976710656).Bd 7:=qof_bd (by unfold Bd; decide) (by omega)
  have m2:=field_Mul.ps b2 b3 (by omega) (by unfold PRM; omega)
  have m2':=field_Mul.es b2 b3 (by omega) (by unfold PRM; omega)
  change _=C5 (qmulv (qDiv (qmulv x x) y).1 (qof 281474976710656)) at m2'
  have b4:=qmulv_bd b2 b3
  simp only [direction_quotient.o,direction_quotient.K,m1,m1',C5,d1,d1',C51,dquot,o1,o1',m2,m2',cond_true]
  generalize hq:qmulv (qDiv (qmulv x x) y).1 (qof 281474976710656)=q at*
  cases (qDiv (qmulv x x) y).2 !=0 with
  |true=>simp only [cond_true]
  |false=>
  have cm:∀m:Int,0≤m→m<2147483648→field_Of.pre (m*m)=true∧field_Of (m*m)=C5 (qof (m*m))∧(qof (m*m)).Bd 8:=fun m h0 h1=>by
    have hs:m*m≤2147483647*2147483647:=Int.mul_le_mul (by omega) (by omega) h0 (by omega)
    have h2:0≤m*m:=Int.mul_nonneg h0 h0
    exact ⟨field_Of.ps (by omega) (by omega),field_Of.es (by omega) (by omega),qof_bd (sq_bd h0 h1) (by omega)⟩
  have hok:DqOk ⟨field_Of,field_Of.pre,field_Cmp,field_Cmp.pre⟩ ⟨(dI q.c0).1,(dI q.c0).2,(dI q.c1).1,(dI q.c1).2,(dI q.c2).1,(dI q.c2).2,(dI q.c3).1,(dI q.c3).2,(dI q.d).1,(dI q.d).2⟩:=fun m h0 h1=>by
    obtain ⟨e1,e2,e3⟩:=cm m h0 h1
    refine ⟨e1,?_⟩
    simp only [dqp,e2,C5]
    exact field_Cmp.ps e3 b4 (by omega)
  have hT:∀m:Int,0≤m→m<2147483648→dqT ⟨field_Of,field_Of.pre,field_Cmp,field_Cmp.pre⟩ ⟨(dI q.c0).1,(dI q.c0).2,(dI q.c1).1,(dI q.c1).2,(dI q.c2).1,(dI q.c2).2,(dI q.c3).1,(dI q.c3).2,(dI q.d).1,(dI q.d).2⟩ m=decide (qcmp (qof (m*m)) q≤0):=fun m h0 h1=>by
    obtain ⟨e1,e2,e3⟩:=cm m h0 h1
    simp only [dqT,dqc,e2,C5]
    rw [field_Cmp.es e3 b4 (by omega)]
    rfl
  have hr:dqb (dqT ⟨field_Of,field_Of.pre,field_Cmp,field_Cmp.pre⟩ ⟨(dI q.c0).1,(dI q.c0).2,(dI q.c1).1,(dI q.c1).2,(dI q.c2).1,(dI q.c2).2,(dI q.c3).1,(dI q.c3).2,(dI q.d).1,(dI q.d).2⟩) 32 0=droot q:=dqb_congr hT 32 0 (by omega)
  have g:=dqb_range (T:=fun m=>decide (qcmp (qof (m*m)) q≤0)) 32 0 (by omega) (by omega)
  change 0≤droot q∧droot q<2147483648 at g
  obtain ⟨e1,e2,e3⟩:=cm (droot q) g.1 g.2
  have c1:=field_Cmp.ps e3 b4 (by omega)
  have c1':=field_Cmp.es e3 b4 (by omega)
  change _=qcmp (qof (droot q*droot q)) q at c1'
  have s1:=field_Sign.ps hx (by omega)
  have s1':=field_Sign.es hx (by omega)
  simp only [C5] at e2
  simp only [dqOk_iff.2 hok,hr,cond_true,cond_false,sq_wrap g.1 g.2,e1,e2,c1,c1',s1,s1']
  generalize droot q=n at*
  have w1:IntKind.i64.wrap (n+1)=n+1:=w64 (by omega) (by omega)
  have w2:IntKind.i64.wrap (0-(n+1))= -(n+1):=by rw [w64 (by omega) (by omega)]; omega
  have w3:IntKind.i64.wrap (0-n)= -n:=by rw [w64 (by omega) (by omega)]; omega
  simp only [w1,w2,w3]
  cases decide (qcmp (qof (n*n)) q<0)<;>cases decide ((bif x.ok then x.sg else 0)<0)<;>simp only [dlh,dchk,cond_true,cond_false]
  · by_cases hc:n≤1073741824
    · simp only [hc,show n≤n from Int.le_refl n,show n≥ -1073741824 by omega,show -1073741824≤n by omega,decide_true,Bool.not_true,cond_true,cond_false,Bool.and_self]
    · simp only [hc,show n≤n from Int.le_refl n,show n≥ -1073741824 by omega,show -1073741824≤n by omega,decide_true,decide_false,Bool.not_false,cond_true,cond_false,Bool.and_false]
  · by_cases hc: -n≥ -1073741824
    · simp only [hc,show -n≤ -n from Int.le_refl _,show -n≤1073741824 by omega,show -1073741824≤ -n by omega,decide_true,Bool.not_true,cond_true,cond_false,Bool.and_self]
    · simp only [hc,show -n≤ -n from Int.le_refl _,show ¬ -1073741824≤ -n by omega,decide_true,decide_false,cond_true,cond_false,Bool.false_and]
  · by_cases hc:n+1≤1073741824
    · simp only [hc,show n≤n+1 by omega,show n≥ -1073741824 by omega,show -1073741824≤n by omega,decide_true,Bool.not_true,cond_true,cond_false,Bool.and_self]
    · simp only [hc,show n≤n+1 by omega,show n≥ -1073741824 by omega,show -1073741824≤n by omega,decide_true,decide_false,Bool.not_false,cond_true,cond_false,Bool.and_false]
  · by_cases hc: -(n+1)≥ -1073741824
    · simp only [hc,show -(n+1)≤ -n by omega,show -n≤1073741824 by omega,show -1073741824≤ -(n+1) by omega,decide_true,Bool.not_true,cond_true,cond_false,Bool.and_self]
    · simp only [hc,show -(n+1)≤ -n by omega,show ¬ -1073741824≤ -(n+1) by omega,decide_true,decide_false,cond_true,cond_false,Bool.false_and]
theorem direction_quotient.ps {j k:Nat} {x y:Q} (hx:x.Bd j) (hy:y.Bd k) (hk:1≤k) (h:4*j+14*k+200≤PRM):direction_quotient.pre (dI x.c0).1 (dI x.c0).2 (dI x.c1).1 (dI x.c1).2 (dI x.c2).1 (dI x.c2).2 (dI x.c3).1 (dI x.c3).2 (dI x.d).1 (dI x.d).2 (dI y.c0).1 (dI y.c0).2 (dI y.c1).1 (dI y.c1).2 (dI y.c2).1 (dI y.c2).2 (dI y.c3).1 (dI y.c3).2 (dI y.d).1 (dI y.d).2=true:=isSome_of (direction_quotient.os hx hy hk h)
theorem direction_quotient.es {j k:Nat} {x y:Q} (hx:x.Bd j) (hy:y.Bd k) (hk:1≤k) (h:4*j+14*k+200≤PRM):direction_quotient (dI x.c0).1 (dI x.c0).2 (dI x.c1).1 (dI x.c1).2 (dI x.c2).1 (dI x.c2).2 (dI x.c3).1 (dI x.c3).2 (dI x.d).1 (dI x.d).2 (dI y.c0).1 (dI y.c0).2 (dI y.c1).1 (dI y.c1).2 (dI y.c2).1 (dI y.c2).2 (dI y.c3).1 (dI y.c3).2 (dI y.d).1 (dI y.d).2=dquot x y:=getD_of (direction_quotient.os hx hy hk h)
theorem direction_quotient.ok:SOK Tryz.prog 63 (direction_quotient.sp direction_quotient direction_quotient.pre):=by
  refine sok_of (E:=⟨[(110,field_Mul.sp field_Mul field_Mul.pre),(113,field_Div.sp field_Div field_Div.pre),(114,field_Of.sp field_Of field_Of.pre),(115,field_Cmp.sp field_Cmp field_Cmp.pre),(116,field_Sign.sp field_Sign field_Sign.pre)],[(65,Tryz.f65)],[]⟩) (L:=[(0,dq.t ⟨field_Of,field_Of.pre,field_Cmp,field_Cmp.pre⟩)]) ⟨(specs_cons field_Mul.ok (specs_cons field_Div.ok (specs_cons field_Of.ok (specs_cons field_Cmp.ok (specs_cons field_Sign.ok specs_nil))))),(inl_cons ⟨Tryz.func65,by decide,rfl⟩ inl_nil),mixed_ok,lps_nil⟩ 60 Tryz.func63 (by decide) rfl (one_loop rfl rfl (dq.lok _ ⟨specs_cons field_Of.ok (specs_cons field_Cmp.ok specs_nil),inl_nil,mixed_ok,lps_nil⟩)) fun vs bl v bl' h=> ?_
  unfold direction_quotient.sp at h
  split at h
  · rename_i a0_0 a0_1 a0_2 a0_3 a0_4 a0_5 a0_6 a0_7 a0_8 a0_9 a1_0 a1_1 a1_2 a1_3 a1_4 a1_5 a1_6 a1_7 a1_8 a1_9
    simp only [Option.some.injEq,Prod.mk.injEq] at h
    obtain ⟨hp,rfl,rfl⟩:=h
    have hr:=direction_quotient.run field_Mul field_Mul.pre field_Div field_Div.pre field_Of field_Of.pre field_Cmp field_Cmp.pre field_Sign field_Sign.pre a0_0 a0_1 a0_2 a0_3 a0_4 a0_5 a0_6 a0_7 a0_8 a0_9 a1_0 a1_1 a1_2 a1_3 a1_4 a1_5 a1_6 a1_7 a1_8 a1_9
    rw [direction_quotient.nat] at hr
    obtain ⟨r,h2⟩:=Option.isSome_iff_exists.1 (hp:(direction_quotient.o a0_0 a0_1 a0_2 a0_3 a0_4 a0_5 a0_6 a0_7 a0_8 a0_9 a1_0 a1_1 a1_2 a1_3 a1_4 a1_5 a1_6 a1_7 a1_8 a1_9).isSome=true)
    have h3:direction_quotient a0_0 a0_1 a0_2 a0_3 a0_4 a0_5 a0_6 a0_7 a0_8 a0_9 a1_0 a1_1 a1_2 a1_3 a1_4 a1_5 a1_6 a1_7 a1_8 a1_9=r:=by unfold direction_quotient; rw [h2]; rfl
    have h4:direction_quotient.K field_Mul field_Mul.pre field_Div field_Div.pre field_Of field_Of.pre field_Cmp field_Cmp.pre field_Sign field_Sign.pre a0_0 a0_1 a0_2 a0_3 a0_4 a0_5 a0_6 a0_7 a0_8 a0_9 a1_0 a1_1 a1_2 a1_3 a1_4 a1_5 a1_6 a1_7 a1_8 a1_9 some=some r:=h2
    rw [h4,Option.bind_some] at hr
    rw [h3]
    exact ⟨hr,by simp [okV,Nat.blt],clo_spec 8 _ (by kernel_rfl),told_blk (by kernel_rfl)⟩
  · cases h
end Go.Proofs.YtpejalpgficopaaGreatDoor.G
end
section
namespace Go.Proofs.YtpejalpgficopaaGreatDoor.G
open Go Go.Proofs Go.RowKit Go.Shelf
attribute [local go_sem] Oper.semAt_some
theorem idx0 (a0 a2 a4 a6 a8 b0 b2 b4 b6 b8 c0 c2 c4 c6 c8:Bool) (a1 a3 a5 a7 a9 b1 b3 b5 b7 b9 c1 c3 c5 c7 c9:ByteArray) (w:World):(Instr.index 162 (.agg #[.bool a0,.string a1,.bool a2,.string a3,.bool a4,.string a5,.bool a6,.string a7,.bool a8,.string a9,.bool b0,.string b1,.bool b2,.string b3,.bool b4,.string b5,.bool b6,.string b7,.bool b8,.string b9,.bool c0,.string c1,.bool c2,.string c3,.bool c4,.string c5,.bool c6,.string c7,.bool c8,.string c9]) (.int .i64 0)).run Tryz.prog w= .ok (.agg #[.bool a0,.string a1,.bool a2,.string a3,.bool a4,.string a5,.bool a6,.string a7,.bool a8,.string a9]) w:=by kernel_rfl
theorem idx1 (a0 a2 a4 a6 a8 b0 b2 b4 b6 b8 c0 c2 c4 c6 c8:Bool) (a1 a3 a5 a7 a9 b1 b3 b5 b7 b9 c1 c3 c5 c7 c9:ByteArray) (w:World):(Instr.index 162 (.agg #[.bool a0,.string a1,.bool a2,.string a3,.bool a4,.string a5,.bool a6,.string a7,.bool a8,.string a9,.bool b0,.string b1,.bool b2,.string b3,.bool b4,.string b5,.bool b6,.string b7,.bool b8,.string b9,.bool c0,.string c1,.bool c2,.string c3,.bool c4,.string c5,.bool c6,.string c7,.bool c8,.string c9]) (.int .i64 1)).run Tryz.prog w= .ok (.agg #[.bool b0,.string b1,.bool b2,.string b3,.bool b4,.string b5,.bool b6,.string b7,.bool b8,.string b9]) w:=by kernel_rfl
theorem idx2 (a0 a2 a4 a6 a8 b0 b2 b4 b6 b8 c0 c2 c4 c6 c8:Bool) (a1 a3 a5 a7 a9 b1 b3 b5 b7 b9 c1 c3 c5 c7 c9:ByteArray) (w:World):(Instr.index 162 (.agg #[.bool a0,.string a1,.bool a2,.string a3,.bool a4,.string a5,.bool a6,.string a7,.bool a8,.string a9,.bool b0,.string b1,.bool b2,.string b3,.bool b4,.string b5,.bool b6,.string b7,.bool b8,.string b9,.bool c0,.string c1,.bool c2,.string c3,.bool c4,.string c5,.bool c6,.string c7,.bool c8,.string c9]) (.int .i64 2)).run Tryz.prog w= .ok (.agg #[.bool c0,.string c1,.bool c2,.string c3,.bool c4,.string c5,.bool c6,.string c7,.bool c8,.string c9]) w:=by kernel_rfl
attribute [local go_sem] idx0 idx1 idx2
set_option maxRecDepth 100000 in
set_option maxHeartbeats 2000000 in
theorem numbers1_in (F:Fence) (n:Nat) (h7:F.fn 172) (hro:F.round=none) (hn:1≤n) (l B:Nat) (n₀:Nat)
    (a0 a2 a4 a6 a8 b0 b2 b4 b6 b8 c0 c2 c4 c6 c8:Bool) (a1 a3 a5 a7 a9 b1 b3 b5 b7 b9 c1 c3 c5 c7 c9:ByteArray) (enc:Fin 3→Array Value) (e0:enc 0= #[.int .i64 0,.agg #[.bool a0,.string a1,.bool a2,.string a3,.bool a4,.string a5,.bool a6,.string a7,.bool a8,.string a9]]) (e1:enc 1= #[.int .i64 1,.agg #[.bool b0,.string b1,.bool b2,.string b3,.bool b4,.string b5,.bool b6,.string b7,.bool b8,.string b9]]) (e2:enc 2= #[.int .i64 2,.agg #[.bool c0,.string c1,.bool c2,.string c3,.bool c4,.string c5,.bool c6,.string c7,.bool c8,.string c9]]) (J Jx:List (Fin 3)→World→Prop)
    (hY:∀pre x W,J pre W→pre.length<3→YieldAt F (n-1) Tryz.prog l (enc x) W fun e W'=>
      (e= .returned (.bool true)∧J (pre++[x]) W'∧Below n₀ W W')∨(e= .returned (.bool false)∧Jx (pre++[x]) W'))
    (hJA:∀ {s W o},J s W→J s (W.alloc o))
    (W:World) (hB:W.heap[B]? =some (.cells #[.bool a0,.string a1,.bool a2,.string a3,.bool a4,.string a5,.bool a6,.string a7,.bool a8,.string a9,.bool b0,.string b1,.bool b2,.string b3,.bool b4,.string b5,.bool b6,.string b7,.bool b8,.string b9,.bool c0,.string c1,.bool c2,.string c3,.bool c4,.string c5,.bool c6,.string c7,.bool c8,.string c9] 28 (0,0))) (h0:J [] W):
    CallsIn F n Tryz.prog 172 #[.func (.yield l) #[] #[],.pointer (some ⟨B,0,none⟩)] W fun e W'=>(∃v,e= .returned v)∧
      ((∃ys,ys=[(0:Fin 3),1,2]∧J ys W')∨(∃pre,True∧Jx pre W')):=by
  refine callsIn_of_wp Tryz.func172 rfl h7 ?_ hro
  simp only [Tryz.ntmps172,List.size_toArray,List.length_cons,List.length_nil,Nat.reduceAdd,Nat.reduceSub,Array.replicate_succ,Array.replicate_zero,List.push_toArray,List.append_toArray,List.nil_append,List.cons_append]
  have k0:W.cell? ⟨B,0,none⟩=some (.bool a0):=by simp [World.cell?,hB]
  have k1:W.cell? ⟨B,1,none⟩=some (.string a1):=by simp [World.cell?,hB]
  have k2:W.cell? ⟨B,2,none⟩=some (.bool a2):=by simp [World.cell?,hB]
  have k3:W.cell? ⟨B,3,none⟩=some (.string a3):=by simp [World.cell?,hB]
  have k4:W.cell? ⟨B,4,none⟩=some (.bool a4):=by simp [World.cell?,hB]
  have k5:W.cell? ⟨B,5,none⟩=some (.string a5):=by simp [World.cell?,hB]
  have k6:W.cell? ⟨B,6,none⟩=some (.bool a6):=by simp [World.cell?,hB]
  have k7:W.cell? ⟨B,7,none⟩=some (.string a7):=by simp [World.cell?,hB]
  have k8:W.cell? ⟨B,8,none⟩=some (.bool a8):=by simp [World.cell?,hB]
  have k9:W.cell? ⟨B,9,none⟩=some (.string a9):=by simp [World.cell?,hB]
  have k10:W.cell? ⟨B,10,none⟩=some (.bool b0):=by simp [World.cell?,hB]
  have k11:W.cell? ⟨B,11,none⟩=some (.string b1):=by simp [World.cell?,hB]
  have k12:W.cell? ⟨B,12,none⟩=some (.bool b2):=by simp [World.cell?,hB]
  have k13:W.cell? ⟨B,13,none⟩=some (.string b3):=by simp [World.cell?,hB]
  have k14:W.cell? ⟨B,14,none⟩=some (.bool b4):=by simp [World.cell?,hB]
  have k15:W.cell? ⟨B,15,none⟩=some (.string b5):=by simp [World.cell?,hB]
  have k16:W.cell? ⟨B,16,none⟩=some (.bool b6):=by simp [World.cell?,hB]
  have k17:W.cell? ⟨B,17,none⟩=some (.string b7):=by simp [World.cell?,hB]
  have k18:W.cell? ⟨B,18,none⟩=some (.bool b8):=by simp [World.cell?,hB]
  have k19:W.cell? ⟨B,19,none⟩=some (.string b9):=by simp [World.cell?,hB]
  have k20:W.cell? ⟨B,20,none⟩=some (.bool c0):=by simp [World.cell?,hB]
  have k21:W.cell? ⟨B,21,none⟩=some (.string c1):=by simp [World.cell?,hB]
  have k22:W.cell? ⟨B,22,none⟩=some (.bool c2):=by simp [World.cell?,hB]
  have k23:W.cell? ⟨B,23,none⟩=some (.string c3):=by simp [World.cell?,hB]
  have k24:W.cell? ⟨B,24,none⟩=some (.bool c4):=by simp [World.cell?,hB]
  have k25:W.cell? ⟨B,25,none⟩=some (.string c5):=by simp [World.cell?,hB]
  have k26:W.cell? ⟨B,26,none⟩=some (.bool c6):=by simp [World.cell?,hB]
  have k27:W.cell? ⟨B,27,none⟩=some (.string c7):=by simp [World.cell?,hB]
  have k28:W.cell? ⟨B,28,none⟩=some (.bool c8):=by simp [World.cell?,hB]
  have k29:W.cell? ⟨B,29,none⟩=some (.string c9):=by simp [World.cell?,hB]
  clear hB
  gi_wp2
  gi_loopw [12] (fun i wr=>∃k:Nat,k≤3∧i= .int .i64 k∧J ([(0:Fin 3),1,2].take k) wr)
    (fun i _=>3-(intOf i).toNat)
  case atStart=>exact ⟨0,by omega,rfl,h0⟩
  case round=>
    obtain ⟨k,hk,rfl,hJs⟩:=hrel
    have hc:k=0∨k=1∨k=2∨k=3:=by omega
    rcases hc with rfl|rfl|rfl|rfl
    · obtain ⟨fn,tmps,assign,body,hy,hR⟩:=hY _ 0 (wr.alloc (.cells #[.bool a0,.string a1,.bool a2,.string a3,.bool a4,.string a5,.bool a6,.string a7,.bool a8,.string a9] 26)) (hJA hJs) (by simp)
      rw [e0] at hy
      gi_wp2
      refine hR.mono ?_
      rintro e W3 (⟨rfl,hJ3,hk3⟩|⟨rfl,hJx3⟩)
      · gi_wp2
        go_roundw
        case rel=>exact ⟨1,by omega,by simp,hJ3⟩
        case measure=>simp [intOf]
      · gi_wp2
        refine bodyPost_ret (results_none rfl _ _ _) rfl ?_
        exact ⟨⟨_,rfl⟩,.inr ⟨_,trivial,hJx3⟩⟩
    · obtain ⟨fn,tmps,assign,body,hy,hR⟩:=hY _ 1 (wr.alloc (.cells #[.bool b0,.string b1,.bool b2,.string b3,.bool b4,.string b5,.bool b6,.string b7,.bool b8,.string b9] 26)) (hJA hJs) (by simp)
      rw [e1] at hy
      gi_wp2
      refine hR.mono ?_
      rintro e W3 (⟨rfl,hJ3,hk3⟩|⟨rfl,hJx3⟩)
      · gi_wp2
        go_roundw
        case rel=>exact ⟨2,by omega,by simp,hJ3⟩
        case measure=>simp [intOf]
      · gi_wp2
        refine bodyPost_ret (results_none rfl _ _ _) rfl ?_
        exact ⟨⟨_,rfl⟩,.inr ⟨_,trivial,hJx3⟩⟩
    · obtain ⟨fn,tmps,assign,body,hy,hR⟩:=hY _ 2 (wr.alloc (.cells #[.bool c0,.string c1,.bool c2,.string c3,.bool c4,.string c5,.bool c6,.string c7,.bool c8,.string c9] 26)) (hJA hJs) (by simp)
      rw [e2] at hy
      gi_wp2
      refine hR.mono ?_
      rintro e W3 (⟨rfl,hJ3,hk3⟩|⟨rfl,hJx3⟩)
      · gi_wp2
        go_roundw
        case rel=>exact ⟨3,by omega,by simp,hJ3⟩
        case measure=>simp [intOf]
      · gi_wp2
        refine bodyPost_ret (results_none rfl _ _ _) rfl ?_
        exact ⟨⟨_,rfl⟩,.inr ⟨_,trivial,hJx3⟩⟩
    · gi_wp2
      go_end0
      exact ⟨⟨_,rfl⟩,.inl ⟨_,rfl,hJs⟩⟩
set_option maxRecDepth 100000 in
set_option maxHeartbeats 1000000 in
theorem numbers_in (F:Fence) (n:Nat) (h5:F.fn 131) (hro:F.round=none) (cs:Array Value) (w:World):
    CallsIn F n Tryz.prog 131 #[.agg cs] w fun e w'=>e= .returned (.func (.func 172) #[] #[.pointer (some ⟨w.heap.size,0,none⟩)])∧w'=w.alloc (.cells cs 28):=by
  refine callsIn_of_wp Tryz.func131 rfl h5 ?_ hro
  simp only [Tryz.ntmps131,List.size_toArray,List.length_cons,List.length_nil,Nat.reduceAdd,Nat.reduceSub,Array.replicate_succ,Array.replicate_zero,List.push_toArray,List.append_toArray,List.nil_append,List.cons_append]
  gi_wp2
  go_ret
  exact ⟨rfl,rfl⟩
theorem cells_kept {X Y:World} {row:Option Nat} {B:Nat} {C:Array Value} {t:TypeId} (h:X.heap[B]? =some (.cells C t (0,0))) (hg:X.grownBy Y row) (hr:∀r,row=some r→∃o:Obj,X.heap[r]? =some o∧o.isCells=false):Y.heap[B]? =some (.cells C t (0,0)):=by
  refine (hg.block B (Array.getElem?_eq_some_iff.1 h).1 fun e=> ?_).trans h
  obtain ⟨o,ho,hc⟩:=hr B e.symm
  rw [h] at ho; cases ho; cases hc
theorem fin3 (x:Fin 3):x=0∨x=1∨x=2:=by revert x; decide
theorem numbers_stops (F:Fence) (n:Nat) (h7:F.fn 172) (hro:F.round=none) (hn:1≤n) (B:Nat) (n₀:Nat) (a0 a2 a4 a6 a8 b0 b2 b4 b6 b8 c0 c2 c4 c6 c8:Bool) (a1 a3 a5 a7 a9 b1 b3 b5 b7 b9 c1 c3 c5 c7 c9:ByteArray) (cs:Array Value) (hcs:cs= #[.bool a0,.string a1,.bool a2,.string a3,.bool a4,.string a5,.bool a6,.string a7,.bool a8,.string a9,.bool b0,.string b1,.bool b2,.string b3,.bool b4,.string b5,.bool b6,.string b7,.bool b8,.string b9,.bool c0,.string c1,.bool c2,.string c3,.bool c4,.string c5,.bool c6,.string c7,.bool c8,.string c9])
    (enc:Fin 3→Array Value) (e0:enc 0= #[.int .i64 0,.agg #[.bool a0,.string a1,.bool a2,.string a3,.bool a4,.string a5,.bool a6,.string a7,.bool a8,.string a9]]) (e1:enc 1= #[.int .i64 1,.agg #[.bool b0,.string b1,.bool b2,.string b3,.bool b4,.string b5,.bool b6,.string b7,.bool b8,.string b9]]) (e2:enc 2= #[.int .i64 2,.agg #[.bool c0,.string c1,.bool c2,.string c3,.bool c4,.string c5,.bool c6,.string c7,.bool c8,.string c9]]) (w:World) (hB:w.heap[B]? =some (.cells cs 28 (0,0))):
    SeqStopsK F n Tryz.prog 172 #[.pointer (some ⟨B,0,none⟩)] enc (Below n₀) (fun ys=>ys=[(0:Fin 3),1,2]) (fun _=>True) 3 w:=fun l J Jx W hW hJ _ hY h0=>by
  subst hcs
  exact numbers1_in F n h7 hro hn l B n₀ a0 a2 a4 a6 a8 b0 b2 b4 b6 b8 c0 c2 c4 c6 c8 a1 a3 a5 a7 a9 b1 b3 b5 b7 b9 c1 c3 c5 c7 c9 enc e0 e1 e2 J Jx hY (fun hs=>hJ _ _ _ none hs (World.grownBy_alloc _ _ none) (fun r e=>by cases e)) W ((hW.block B (Array.getElem?_eq_some_iff.1 hB).1).trans hB) h0
theorem wpListIn_loadBig {F:Fence} {n:Nat} {P:Program} {w:World} {ops:Array Oper} {rest:List Oper} {o:Oper} {a:Act} {Q:Exit→Act→World→Prop}
    (hg:o.guard=none) (x:Operand) (hop:o.op= .load 28 x) {ad:Addr} (hx:a.eval x= .pointer (some ad)) {v:Value} (hr:(loadVar 28 ad).run P w= .ok v w)
    (h:wpListIn F n P ops Q rest (a.put o.dst v) w):wpListIn F n P ops Q (o::rest) a w:=by
  refine wpListIn_plain hg fun K hK=> ?_
  unfold Oper.wpIn
  refine ⟨by simp [Oper.about,hop],?_⟩
  rw [Oper.semAt_plain F _ _ (by rw [hop]; intro c hc'; cases hc')]
  simp [execOp,hop,hx,Instr.loadAt,Instr.sureAddr,hr,Result.andThen]
  exact hK _ _ h
set_option maxRecDepth 100000 in
set_option maxHeartbeats 4000000 in
theorem vvalid_in (n:Nat) (hn:6≤n) (a0 a2 a4 a6 a8 b0 b2 b4 b6 b8 c0 c2 c4 c6 c8:Bool) (a1 a3 a5 a7 a9 b1 b3 b5 b7 b9 c1 c3 c5 c7 c9:ByteArray) (bb:Fin 3→Bool) (w:World) (cs:Array Value) (hcs:cs= #[.bool a0,.string a1,.bool a2,.string a3,.bool a4,.string a5,.bool a6,.string a7,.bool a8,.string a9,.bool b0,.string b1,.bool b2,.string b3,.bool b4,.string b5,.bool b6,.string b7,.bool b8,.string b9,.bool c0,.string c1,.bool c2,.string c3,.bool c4,.string c5,.bool c6,.string c7,.bool c8,.string c9])
    (enc:Fin 3→Array Value) (e0:enc 0= #[.int .i64 0,.agg #[.bool a0,.string a1,.bool a2,.string a3,.bool a4,.string a5,.bool a6,.string a7,.bool a8,.string a9]]) (e1:enc 1= #[.int .i64 1,.agg #[.bool b0,.string b1,.bool b2,.string b3,.bool b4,.string b5,.bool b6,.string b7,.bool b8,.string b9]]) (e2:enc 2= #[.int .i64 2,.agg #[.bool c0,.string c1,.bool c2,.string c3,.bool c4,.string c5,.bool c6,.string c7,.bool c8,.string c9]])
    (encv:Fin 3→Array Value) (encv0:encv 0= #[.bool a0,.string a1,.bool a2,.string a3,.bool a4,.string a5,.bool a6,.string a7,.bool a8,.string a9]) (encv1:encv 1= #[.bool b0,.string b1,.bool b2,.string b3,.bool b4,.string b5,.bool b6,.string b7,.bool b8,.string b9]) (encv2:encv 2= #[.bool c0,.string c1,.bool c2,.string c3,.bool c4,.string c5,.bool c6,.string c7,.bool c8,.string c9])
    (hX:∀W,Below w.heap.size w W→Calls Tryz.prog 109 #[.agg #[.bool a0,.string a1,.bool a2,.string a3,.bool a4,.string a5,.bool a6,.string a7,.bool a8,.string a9]] W fun e W'=>e= .returned (.bool (bb 0))∧Below W.heap.size W W')
    (hY:∀W,Below w.heap.size w W→Calls Tryz.prog 109 #[.agg #[.bool b0,.string b1,.bool b2,.string b3,.bool b4,.string b5,.bool b6,.string b7,.bool b8,.string b9]] W fun e W'=>e= .returned (.bool (bb 1))∧Below W.heap.size W W')
    (hZ:∀W,Below w.heap.size w W→Calls Tryz.prog 109 #[.agg #[.bool c0,.string c1,.bool c2,.string c3,.bool c4,.string c5,.bool c6,.string c7,.bool c8,.string c9]] W fun e W'=>e= .returned (.bool (bb 2))∧Below W.heap.size W W'):
    CallsIn Fence.wide n Tryz.prog 83 #[.agg cs] w fun e W'=>e= .returned (.bool (bb 0&&(bb 1&&bb 2)))∧Below w.heap.size w W':=by
  have h1:1≤n:=by omega
  have hps:∀x:Fin 3,(enc x).size=(#[7,8]:Array Tmp).size:=by
    intro x
    rcases fin3 x with rfl|rfl|rfl
    · rw [e0]; rfl
    · rw [e1]; rfl
    · rw [e2]; rfl
  have hL:(loadVar 28 ⟨w.heap.size,0,none⟩).run Tryz.prog ((w.alloc (.cells cs 28)).alloc (.cells #[.bool false] 4))= .ok (.agg cs) ((w.alloc (.cells cs 28)).alloc (.cells #[.bool false] 4)):=by
    subst hcs
    exact RX.run_loadVar ((Below.heap_alloc _ _ _ (by simp)).trans (World.alloc_heap_new w _)) (by kernel_rfl)
  have HL:=Lib.hid hL
  have HC:=Lib.hid hcs
  clear hL hcs
  refine callsIn_of_wp_marks Tryz.func83 rfl trivial ?_ rfl
  simp only [Tryz.ntmps83,List.size_toArray,List.length_cons,List.length_nil,Nat.reduceAdd,Nat.reduceSub,Array.replicate_succ,Array.replicate_zero,List.push_toArray,List.append_toArray,List.nil_append,List.cons_append]
  gi_wp2_with (first|(refine wpListIn_loadBig rfl _ rfl rfl HL.out ?_)|(refine ⟨trivial,?_⟩; gi_at_call 131; refine (numbers_in Fence.wide (n-1) trivial rfl cs _).mono ?_; rintro e w' ⟨rfl,rfl⟩))
  have bS:=(Boxed.new (w.alloc (.cells cs 28)) 4 (.bool false)).alloc (.cells cs 28)
  have hA:(((w.alloc (.cells cs 28)).alloc (.cells #[.bool false] 4)).alloc (.cells cs 28)).heap[w.heap.size+1+1]? =some (.cells cs 28 (0,0)):=by
    have:=World.alloc_heap_new ((w.alloc (.cells cs 28)).alloc (.cells #[.bool false] 4)) (.cells cs 28)
    simpa using this
  have hB0:Below w.heap.size w (((w.alloc (.cells cs 28)).alloc (.cells #[.bool false] 4)).alloc (.cells cs 28)):=(((Below.refl _ w).alloc (Nat.le_refl _) _).alloc (by simp) _).alloc (by simp; omega) _
  have hsz:(((w.alloc (.cells cs 28)).alloc (.cells #[.bool false] 4)).alloc (.cells cs 28)).heap.size=w.heap.size+3:=by simp
  simp only [World.size_alloc] at bS
  obtain ⟨W0,hW0⟩:∃W0,((w.alloc (.cells cs 28)).alloc (.cells #[.bool false] 4)).alloc (.cells cs 28)=W0:=⟨_,rfl⟩
  rw [hW0] at bS hA hB0 hsz ⊢
  clear hW0 HL
  refine wpIn_rangeFunc_ownH (α:=Fin 3) rfl h1 (gf:=172) (lb:= #[.pointer (some ⟨w.heap.size+1+1,0,none⟩)]) rfl trivial (enters_of Tryz.func172 (by kernel_rfl) rfl)
    (numbers_stops Fence.wide (n-1) trivial rfl (by omega) (w.heap.size+1+1) w.heap.size a0 a2 a4 a6 a8 b0 b2 b4 b6 b8 c0 c2 c4 c6 c8 a1 a3 a5 a7 a9 b1 b3 b5 b7 b9 c1 c3 c5 c7 c9 cs HC.out enc e0 e1 e2 W0 hA) belowK_t (belowK_b (by omega)) (Below.refl _ _) hps
    (fun pre W=>(Boxed W (w.heap.size+1) 4 (.bool false)∧∀x∈pre,bb x=true)∧Below w.heap.size w W)
    (fun c pre W=>(c= .ret∧Boxed W (w.heap.size+1) 4 (.bool false)∧(bb 0&&(bb 1&&bb 2))=false)∧Below w.heap.size w W)
    (OwnFrom.and (OwnFrom.and (Own.from (boxed_own _ _ _) _) (fun _ _ _ _ hs _ _=>hs)) (ownFrom_below (Nat.le_refl _) (by omega)))
    (fun c=>OwnFrom.and (OwnFrom.and (fun _ _ _ _ hs _ _=>hs) (OwnFrom.and (Own.from (boxed_own _ _ _) _) (fun _ _ _ _ hs _ _=>hs))) (ownFrom_below (Nat.le_refl _) (by omega)))
    ⟨⟨bS,fun x hx=>by cases hx⟩,hB0⟩
    (fun x a' W=>∃Bx,w.heap.size+1<Bx∧W.heap[Bx]? =some (.cells (encv x) 26 (0,0))∧∃(u7 u8:Value),a'= {tmps:= #[.agg cs,.pointer (some ⟨w.heap.size,0,none⟩),.pointer (some ⟨w.heap.size+1,0,none⟩),undef,.pointer (some ⟨Bx,0,none⟩),.agg cs,.func (.func 172) #[] #[.pointer (some ⟨w.heap.size+1+1,0,none⟩)],u7,u8,undef,undef,undef],defers:=[]})
    (fun x a' _ X Y row hs hg hr=>by obtain ⟨Bx,h1,h2,h3⟩:=hs; exact ⟨Bx,h1,cells_kept h2 hg (fun r e=>(hr r e).2),h3⟩)
    ?assign ?body ?done ?stop
  case assign=>
    rintro l pre x W K ⟨⟨bS1,hp⟩,hB1⟩ hK
    rcases fin3 x with rfl|rfl|rfl
    · rw [e0]
      gi_wp2
      exact hK _ _ ((KeepsOthers.alloc _ _).from _) ((Below.refl _ W).alloc hB1.size _) ⟨⟨bS1.alloc _,hp⟩,hB1.alloc hB1.size _⟩ ⟨W.heap.size,bS1.lt,by rw [encv0]; exact World.alloc_heap_new W _,_,_,rfl⟩
    · rw [e1]
      gi_wp2
      exact hK _ _ ((KeepsOthers.alloc _ _).from _) ((Below.refl _ W).alloc hB1.size _) ⟨⟨bS1.alloc _,hp⟩,hB1.alloc hB1.size _⟩ ⟨W.heap.size,bS1.lt,by rw [encv1]; exact World.alloc_heap_new W _,_,_,rfl⟩
    · rw [e2]
      gi_wp2
      exact hK _ _ ((KeepsOthers.alloc _ _).from _) ((Below.refl _ W).alloc hB1.size _) ⟨⟨bS1.alloc _,hp⟩,hB1.alloc hB1.size _⟩ ⟨W.heap.size,bS1.lt,by rw [encv2]; exact World.alloc_heap_new W _,_,_,rfl⟩
  case body=>
    rintro l pre x a' W hl ⟨r,hr⟩ ⟨⟨bS1,hp⟩,hB1⟩ ⟨Bx,hBx,bX,u7,u8,rfl⟩ hlt
    have h1':1≤n-1-1:=by omega
    have cS:=bS1.cell
    have fS:=bS1.frozen
    rcases fin3 x with rfl|rfl|rfl
    · rw [encv0] at bX
      have hcx:∀j u,(#[.bool a0,.string a1,.bool a2,.string a3,.bool a4,.string a5,.bool a6,.string a7,.bool a8,.string a9]:Array Value)[j]? =some u→W.cell? ⟨Bx,j,none⟩=some u:=fun j u hu=>by simp [World.cell?,bX,hu]
      have k0:=hcx 0 _ rfl
      have k1:=hcx 1 _ rfl
      have k2:=hcx 2 _ rfl
      have k3:=hcx 3 _ rfl
      have k4:=hcx 4 _ rfl
      have k5:=hcx 5 _ rfl
      have k6:=hcx 6 _ rfl
      have k7:=hcx 7 _ rfl
      have k8:=hcx 8 _ rfl
      have k9:=hcx 9 _ rfl
      clear hcx
      cases hv:bb 0 with
      | false=>
        have HV:=Lib.hid hv
        rw [hv] at hX
        clear hv
        gi_wp2_with (refine ⟨trivial,?_⟩; gi_at_call 109; refine (CallsIn.inRound l (callsIn_wide.2 (hX _ hB1))).mono ?_; rintro e w' ⟨rfl,hb⟩; have cS2:=(hb.cell (p:=⟨w.heap.size+1,0,none⟩) bS1.lt).trans cS; have fS2:=(hb.frozen (p:=⟨w.heap.size+1,0,none⟩) bS1.lt).trans fS)
        exact ⟨(KeepsFrom.trans ⟨hb.size,fun k o _ hk _=>(hb.block k (Array.getElem?_eq_some_iff.1 hk).1).trans hk⟩ ((KeepsOthers.setCell _ _ _).from _)),⟨rfl,Boxed.set (.bool false) (show Boxed w' (w.heap.size+1) 4 (.bool false) from (hb.block _ bS1.lt).trans bS1),by simp⟩,(hB1.trans (hb.mono hB1.size)).setCell (p:=⟨w.heap.size+1,0,none⟩) (by simp) _⟩
      | true=>
        have HV:=Lib.hid hv
        rw [hv] at hX
        clear hv
        gi_wp2_with (refine ⟨trivial,?_⟩; gi_at_call 109; refine (CallsIn.inRound l (callsIn_wide.2 (hX _ hB1))).mono ?_; rintro e w' ⟨rfl,hb⟩)
        exact ⟨⟨hb.size,fun k o _ hk _=>(hb.block k (Array.getElem?_eq_some_iff.1 hk).1).trans hk⟩,hb.mono hB1.size,⟨(hb.block _ bS1.lt).trans bS1,fun y hy=>(List.mem_append.1 hy).elim (hp y) (fun h=>by rw [List.mem_singleton.1 h]; exact HV.out)⟩,hB1.trans (hb.mono hB1.size)⟩
    · rw [encv1] at bX
      have hcx:∀j u,(#[.bool b0,.string b1,.bool b2,.string b3,.bool b4,.string b5,.bool b6,.string b7,.bool b8,.string b9]:Array Value)[j]? =some u→W.cell? ⟨Bx,j,none⟩=some u:=fun j u hu=>by simp [World.cell?,bX,hu]
      have k0:=hcx 0 _ rfl
      have k1:=hcx 1 _ rfl
      have k2:=hcx 2 _ rfl
      have k3:=hcx 3 _ rfl
      have k4:=hcx 4 _ rfl
      have k5:=hcx 5 _ rfl
      have k6:=hcx 6 _ rfl
      have k7:=hcx 7 _ rfl
      have k8:=hcx 8 _ rfl
      have k9:=hcx 9 _ rfl
      clear hcx
      cases hv:bb 1 with
      | false=>
        have HV:=Lib.hid hv
        rw [hv] at hY
        clear hv
        gi_wp2_with (refine ⟨trivial,?_⟩; gi_at_call 109; refine (CallsIn.inRound l (callsIn_wide.2 (hY _ hB1))).mono ?_; rintro e w' ⟨rfl,hb⟩; have cS2:=(hb.cell (p:=⟨w.heap.size+1,0,none⟩) bS1.lt).trans cS; have fS2:=(hb.frozen (p:=⟨w.heap.size+1,0,none⟩) bS1.lt).trans fS)
        exact ⟨(KeepsFrom.trans ⟨hb.size,fun k o _ hk _=>(hb.block k (Array.getElem?_eq_some_iff.1 hk).1).trans hk⟩ ((KeepsOthers.setCell _ _ _).from _)),⟨rfl,Boxed.set (.bool false) (show Boxed w' (w.heap.size+1) 4 (.bool false) from (hb.block _ bS1.lt).trans bS1),by simp⟩,(hB1.trans (hb.mono hB1.size)).setCell (p:=⟨w.heap.size+1,0,none⟩) (by simp) _⟩
      | true=>
        have HV:=Lib.hid hv
        rw [hv] at hY
        clear hv
        gi_wp2_with (refine ⟨trivial,?_⟩; gi_at_call 109; refine (CallsIn.inRound l (callsIn_wide.2 (hY _ hB1))).mono ?_; rintro e w' ⟨rfl,hb⟩)
        exact ⟨⟨hb.size,fun k o _ hk _=>(hb.block k (Array.getElem?_eq_some_iff.1 hk).1).trans hk⟩,hb.mono hB1.size,⟨(hb.block _ bS1.lt).trans bS1,fun y hy=>(List.mem_append.1 hy).elim (hp y) (fun h=>by rw [List.mem_singleton.1 h]; exact HV.out)⟩,hB1.trans (hb.mono hB1.size)⟩
    · rw [encv2] at bX
      have hcx:∀j u,(#[.bool c0,.string c1,.bool c2,.string c3,.bool c4,.string c5,.bool c6,.string c7,.bool c8,.string c9]:Array Value)[j]? =some u→W.cell? ⟨Bx,j,none⟩=some u:=fun j u hu=>by simp [World.cell?,bX,hu]
      have k0:=hcx 0 _ rfl
      have k1:=hcx 1 _ rfl
      have k2:=hcx 2 _ rfl
      have k3:=hcx 3 _ rfl
      have k4:=hcx 4 _ rfl
      have k5:=hcx 5 _ rfl
      have k6:=hcx 6 _ rfl
      have k7:=hcx 7 _ rfl
      have k8:=hcx 8 _ rfl
      have k9:=hcx 9 _ rfl
      clear hcx
      cases hv:bb 2 with
      | false=>
        have HV:=Lib.hid hv
        rw [hv] at hZ
        clear hv
        gi_wp2_with (refine ⟨trivial,?_⟩; gi_at_call 109; refine (CallsIn.inRound l (callsIn_wide.2 (hZ _ hB1))).mono ?_; rintro e w' ⟨rfl,hb⟩; have cS2:=(hb.cell (p:=⟨w.heap.size+1,0,none⟩) bS1.lt).trans cS; have fS2:=(hb.frozen (p:=⟨w.heap.size+1,0,none⟩) bS1.lt).trans fS)
        exact ⟨(KeepsFrom.trans ⟨hb.size,fun k o _ hk _=>(hb.block k (Array.getElem?_eq_some_iff.1 hk).1).trans hk⟩ ((KeepsOthers.setCell _ _ _).from _)),⟨rfl,Boxed.set (.bool false) (show Boxed w' (w.heap.size+1) 4 (.bool false) from (hb.block _ bS1.lt).trans bS1),by simp⟩,(hB1.trans (hb.mono hB1.size)).setCell (p:=⟨w.heap.size+1,0,none⟩) (by simp) _⟩
      | true=>
        have HV:=Lib.hid hv
        rw [hv] at hZ
        clear hv
        gi_wp2_with (refine ⟨trivial,?_⟩; gi_at_call 109; refine (CallsIn.inRound l (callsIn_wide.2 (hZ _ hB1))).mono ?_; rintro e w' ⟨rfl,hb⟩)
        exact ⟨⟨hb.size,fun k o _ hk _=>(hb.block k (Array.getElem?_eq_some_iff.1 hk).1).trans hk⟩,hb.mono hB1.size,⟨(hb.block _ bS1.lt).trans bS1,fun y hy=>(List.mem_append.1 hy).elim (hp y) (fun h=>by rw [List.mem_singleton.1 h]; exact HV.out)⟩,hB1.trans (hb.mono hB1.size)⟩
  case done=>
    rintro D ys W hD rfl ⟨⟨bS1,hp⟩,hB1⟩ hK
    have cS:=bS1.cell
    have fS:=bS1.frozen
    have HP:=Lib.hid (show (bb 0&&(bb 1&&bb 2))=true by rw [hp 0 (by simp),hp 1 (by simp),hp 2 (by simp)]; rfl)
    clear hp
    gi_wp2
    have hK':=(KeepsOthers.setCell W ⟨w.heap.size+1,0,none⟩ (.bool true)).same D _ hK rfl
    refine ⟨by simp,.inl ⟨_,_,rfl,run_takeDeferred hK',?_⟩⟩
    have hc5:=cell_kept (World.cell?_setCell_same' W ⟨w.heap.size+1,0,none⟩ (.bool true) (by rw [cS]; rfl)) (grownBy_putObj' _ D (.deferred none)) (fun r e=>by cases e; exact ⟨_,hK',rfl⟩)
    refine ⟨.bool true,?_,by rw [HP.out],(hB1.setCell (p:=⟨w.heap.size+1,0,none⟩) (by simp) _).trans (belowK_b (w:=w) (Nat.le_refl _) _ D _ _ (by omega) hK' rfl rfl)⟩
    simp [results,Tryz.f83,go_sem,hc5]
  case stop=>
    rintro D c pre W hD _ ⟨⟨rfl,bS1,hf⟩,hB1⟩ hK
    have HF:=Lib.hid hf
    clear hf
    have cS:=bS1.cell
    have fS:=bS1.frozen
    gi_wp2
    refine ⟨by simp,.inl ⟨_,_,rfl,run_takeDeferred hK,?_⟩⟩
    have hc5:=cell_kept cS (grownBy_putObj' _ D (.deferred none)) (fun r e=>by cases e; exact ⟨_,hK,rfl⟩)
    refine ⟨.bool false,?_,by rw [HF.out],hB1.trans (belowK_b (w:=w) (Nat.le_refl _) _ D _ _ (by omega) hK rfl rfl)⟩
    simp [results,Tryz.f83,go_sem,hc5]
def vvsp (s:RX.HSpec):RX.HSpec
  | [.agg ⟨[.bool a0,.string a1,.bool a2,.string a3,.bool a4,.string a5,.bool a6,.string a7,.bool a8,.string a9,.bool b0,.string b1,.bool b2,.string b3,.bool b4,.string b5,.bool b6,.string b7,.bool b8,.string b9,.bool c0,.string c1,.bool c2,.string c3,.bool c4,.string c5,.bool c6,.string c7,.bool c8,.string c9]⟩],[]=>
    match s [.agg ⟨[.bool a0,.string a1,.bool a2,.string a3,.bool a4,.string a5,.bool a6,.string a7,.bool a8,.string a9]⟩] [],s [.agg ⟨[.bool b0,.string b1,.bool b2,.string b3,.bool b4,.string b5,.bool b6,.string b7,.bool b8,.string b9]⟩] [],s [.agg ⟨[.bool c0,.string c1,.bool c2,.string c3,.bool c4,.string c5,.bool c6,.string c7,.bool c8,.string c9]⟩] [] with
    |some (n0,.bool b0,[]),some (n1,.bool b1,[]),some (n2,.bool b2,[])=>some (n0&&(n1&&n2),.bool (b0&&(b1&&b2)),[])
    |_,_,_=>none
  |_,_=>none
theorem callF {s:RX.HSpec} (hs:RX.SOK Tryz.prog 109 s) {cs:List Value} {b:Bool} (h:s [.agg ⟨cs⟩] []=some (true,.bool b,[])) (hc:∀c∈cs,RX.Clo c) (W:World) (ht:RX.TabOk W):Calls Tryz.prog 109 #[.agg ⟨cs⟩] W fun e W'=>e= .returned (.bool b)∧Below W.heap.size W W':=by
  have:=hs.run _ _ _ _ h (fun _ hb=>by cases hb) (fun i=>i) W (fun _ _ hb=>by cases hb) (fun i _ hi=>by cases hi) ht (fun i hi=>by cases hi)
  have e1:(⟨[Value.agg ⟨cs⟩].map (RX.ren fun i=>i)⟩:Array Value)= #[.agg ⟨cs⟩]:=by
    simp only [List.map_cons,List.map_nil,RX.ren_agg,RX.map_clo hc]
  rw [e1] at this
  refine this.mono fun e W' ⟨g',_,he,_,_,_,hk⟩=>⟨by rw [he,RX.ren_bool],?_⟩
  exact ⟨hk.os,hk.tape,hk.output,hk.size,fun k hk'=>hk.block k hk' (fun ⟨i,hi,_⟩=>by cases hi)⟩
theorem tabs_below {w W:World} (ht:RX.TabOk w) (hb:Below w.heap.size w W):RX.TabOk W:=
  ht.of fun x hx=>by
    obtain ⟨o,ho,_⟩:=ht x hx
    exact hb.block _ (Array.getElem?_eq_some_iff.1 ho).1
theorem clo10 (b0 b1 b2 b3 b4:Bool) (s0 s1 s2 s3 s4:ByteArray):∀c∈([.bool b0,.string s0,.bool b1,.string s1,.bool b2,.string s2,.bool b3,.string s3,.bool b4,.string s4]:List Value),RX.Clo c:=
  fun c hc=>by simp only [List.mem_cons,List.not_mem_nil,or_false] at hc; rcases hc with rfl|rfl|rfl|rfl|rfl|rfl|rfl|rfl|rfl|rfl<;>intro g<;>simp
def f3 {α:Type} (x y z:α):Fin 3→α
  |0=>x
  |1=>y
  |2=>z
set_option maxRecDepth 100000 in
theorem vvsok {s:RX.HSpec} (hs:RX.SOK Tryz.prog 109 s):RX.SOK Tryz.prog 83 (vvsp s):=by
  refine ⟨⟨Tryz.f83,rfl,by decide,rfl⟩,fun vs bl v bl' h hk1 g w hk2 hk3 ht hk4=> ?_⟩
  clear hk1 hk2 hk3 hk4
  unfold vvsp at h
  split at h
  · rename_i a0 a1 a2 a3 a4 a5 a6 a7 a8 a9 b0 b1 b2 b3 b4 b5 b6 b7 b8 b9 c0 c1 c2 c3 c4 c5 c6 c7 c8 c9
    split at h
    · rename_i n0 b0_ n1 b1_ n2 b2_ hx hy hz
      simp only [Option.some.injEq,Prod.mk.injEq,Bool.and_eq_true] at h
      obtain ⟨⟨rfl,rfl,rfl⟩,rfl,rfl⟩:=h
      have key:=callsIn_wide.1 (vvalid_in 6 (by omega) a0 a2 a4 a6 a8 b0 b2 b4 b6 b8 c0 c2 c4 c6 c8 a1 a3 a5 a7 a9 b1 b3 b5 b7 b9 c1 c3 c5 c7 c9 (f3 (b0_) (b1_) (b2_)) w _ rfl (f3 (#[.int .i64 0,.agg #[.bool a0,.string a1,.bool a2,.string a3,.bool a4,.string a5,.bool a6,.string a7,.bool a8,.string a9]]) (#[.int .i64 1,.agg #[.bool b0,.string b1,.bool b2,.string b3,.bool b4,.string b5,.bool b6,.string b7,.bool b8,.string b9]]) (#[.int .i64 2,.agg #[.bool c0,.string c1,.bool c2,.string c3,.bool c4,.string c5,.bool c6,.string c7,.bool c8,.string c9]])) rfl rfl rfl (f3 (#[.bool a0,.string a1,.bool a2,.string a3,.bool a4,.string a5,.bool a6,.string a7,.bool a8,.string a9]) (#[.bool b0,.string b1,.bool b2,.string b3,.bool b4,.string b5,.bool b6,.string b7,.bool b8,.string b9]) (#[.bool c0,.string c1,.bool c2,.string c3,.bool c4,.string c5,.bool c6,.string c7,.bool c8,.string c9])) rfl rfl rfl (fun W hb=>callF hs hx (clo10 _ _ _ _ _ _ _ _ _ _) W (tabs_below ht hb)) (fun W hb=>callF hs hy (clo10 _ _ _ _ _ _ _ _ _ _) W (tabs_below ht hb)) (fun W hb=>callF hs hz (clo10 _ _ _ _ _ _ _ _ _ _) W (tabs_below ht hb)))
      simp only [List.map_cons,List.map_nil,RX.ren_agg,RX.ren_bool,RX.ren_string]
      exact key.mono fun e W' ⟨he,hb⟩=>⟨g,(fun i hi=>by cases hi),(by rw [he]; rfl),(fun i b hi=>by cases hi),(fun i hi hi2=>by cases hi2),(fun i j _ hi=>by cases hi),⟨hb.os,hb.tape,hb.output,hb.size,fun k hk _=>hb.block k hk⟩⟩
    · cases h
  · cases h
end Go.Proofs.YtpejalpgficopaaGreatDoor.G
end
section
namespace Go.Proofs.YtpejalpgficopaaGreatDoor.G
open Go Go.Proofs RX
set_option linter.unusedVariables false
mutual
def veq:Nat→Value→Value→Bool
  |_,.int k a,.int j b=>decide (k=j)&&ieq a b
  |_,.bool a,.bool b=>a==b
  |_,.string a,.string b=>a.data.toList==b.data.toList
  |n+1,.agg a,.agg b=>veqs n a.toList b.toList
  |_,_,_=>false
def veqs:Nat→List Value→List Value→Bool
  |_,[],[]=>true
  |n+1,a::r,b::s=>veq n a b&&veqs n r s
  |_,_,_=>false
end
theorem veq_both:∀(n:Nat),(∀a b,veq n a b=true→a=b)∧(∀a b,veqs n a b=true→a=b)
  | n =>by
    have hl :∀m,(∀j,j<m→∀a b,veq j a b=true→a=b)→(∀j,j<m→∀a b,veqs j a b=true→a=b)→∀a b,veqs m a b=true→a=b:=fun m h1 h2 a b h=>by
      cases a with
      | nil=>cases b with
        |nil=>rfl
        |cons b s=>cases m<;>simp [veqs] at h
      | cons a r=>cases b with
        |nil=>cases m<;>simp [veqs] at h
        | cons b s=>cases m with
          |zero=>simp [veqs] at h
          | succ m=>
            rw [veqs,Bool.and_eq_true] at h
            rw [h1 m (by omega) _ _ h.1,h2 m (by omega) _ _ h.2]
    have hv:∀m,(∀j,j<m→∀a b,veqs j a b=true→a=b)→∀a b,veq m a b=true→a=b:=fun m h1 a b h=>by
      cases a<;>cases b<;>try (first|(cases m<;>simp [veq] at h; done))
      case bool.bool a b=>cases m<;>(simp only [veq,beq_iff_eq] at h; rw [h])
      case int.int k a j b=>
        have:(decide (k=j)&&ieq a b)=true:=by cases m<;>exact h
        rw [Bool.and_eq_true,decide_eq_true_iff,ieq_eq] at this
        rw [this.1,this.2]
      case string.string a b=>
        have:(a.data.toList==b.data.toList)=true:=by cases m<;>exact h
        rw [beq_iff_eq] at this
        obtain ⟨⟨a⟩⟩:=a
        obtain ⟨⟨b⟩⟩:=b
        simp only at this
        rw [this]
      case agg.agg a b=>
        cases m with
        |zero=>simp [veq] at h
        | succ m=>
          have:=h1 m (by omega) _ _ h
          obtain ⟨a⟩:=a
          obtain ⟨b⟩:=b
          simp only at this
          rw [this]
    have key:∀m,∀j,j<m→(∀a b,veq j a b=true→a=b)∧(∀a b,veqs j a b=true→a=b):=fun m=>by
      induction m with
      |zero=>intro j hj; omega
      | succ m ih=>
        intro j hj
        by_cases hjm:j<m
        · exact ih j hjm
        · have:j=m:=by omega
          subst this
          exact ⟨hv j (fun i hi=>(ih i hi).2),hl j (fun i hi=>(ih i hi).1) (fun i hi=>(ih i hi).2)⟩
    exact key (n+1) n (by omega)
def tabS:List (List Value×Value)→HSpec
  |[],_,_=>none
  |p::r,vs,[]=>bif veqs 60 p.1 vs then some (true,p.2,[]) else tabS r vs []
  |_::_,_,_::_=>none
theorem tabS_sub {s:HSpec} :∀ {l:List (List Value×Value)},(∀p∈l,s p.1 []=some (true,p.2,[]))→∀vs bl v bl',tabS l vs bl=some (true,v,bl')→s vs bl=some (true,v,bl')
  |[],_,vs,bl,v,bl',h=>by simp [tabS] at h
  | p ::r,hl,vs,bl,v,bl',h=>by
    cases bl with
    |cons b bl=>simp [tabS] at h
    | nil=>
      unfold tabS at h
      cases hv:veqs 60 p.1 vs with
      | true=>
        rw [hv] at h
        simp only [cond_true,Option.some.injEq,Prod.mk.injEq,true_and] at h
        obtain ⟨rfl,rfl⟩:=h
        rw [←(veq_both 60).2 _ _ hv]
        exact hl p (List.mem_cons_self ..)
      | false=>
        rw [hv] at h
        exact tabS_sub (fun q hq=>hl q (List.mem_cons_of_mem _ hq)) vs [] v bl' h
theorem tabS_ok {P:Program} {f:FuncId} {s:HSpec} (hs:SOK P f s) {l:List (List Value×Value)} (h:∀p∈l,s p.1 []=some (true,p.2,[])):SOK P f (tabS l):=
  ⟨hs.enter,fun vs bl v bl' ht=>hs.run vs bl v bl' (tabS_sub h vs bl v bl' ht)⟩
abbrev cq (x:Q):Value:= .agg ⟨[.bool (dI x.c0).1,.string (dI x.c0).2,.bool (dI x.c1).1,.string (dI x.c1).2,.bool (dI x.c2).1,.string (dI x.c2).2,.bool (dI x.c3).1,.string (dI x.c3).2,.bool (dI x.d).1,.string (dI x.d).2]⟩
theorem bd1_of {n:Int} (h:n.natAbs≤255):Bd 1 n:=by
  have:p8 1=256:=by decide
  unfold Bd
  omega
theorem bd8 {n:Int} (h:n.natAbs≤255):(qof n).Bd 1:=qof_bd (bd1_of h) (Nat.le_refl 1)
theorem awMul1 {x y:Q} {k:Nat} (hx:x.Bd k) (hy:y.Bd k) (hk:k≤PRM):field_Mul.sp field_Mul field_Mul.pre [cq x,cq y] []=some (true,cq (qmulv x y),[]):=by
  have h1:=field_Mul.ps hx hy hk hk
  have h2:=field_Mul.es hx hy hk hk
  change _=C5 (qmulv x y) at h2
  simp only [field_Mul.sp,h1,h2,C5]
theorem awAdd1 {x y:Q} {k:Nat} (hx:x.Bd k) (hy:y.Bd k) (hk:k≤PRM) (ok:(x.ok&&y.ok)=true):field_Add.sp field_Add field_Add.pre [cq x,cq y] []=some (true,cq (qadd x y),[]):=by
  have h1:=field_Add.ps hx hy hk hk
  have h2:=field_Add.es hx hy hk hk
  rw [ok] at h2
  change _=C5 (qadd x y) at h2
  simp only [field_Add.sp,h1,h2,C5]
theorem awOf1 {n:Int} (h: -9223372036854775808≤n) (h':n≤9223372036854775807):field_Of.sp field_Of field_Of.pre [.int .i64 n] []=some (true,cq (qof n),[]):=by
  have h1:=field_Of.ps h h'
  have h2:=field_Of.es h h'
  change _=C5 (qof n) at h2
  simp only [field_Of.sp,h1,h2,C5]
theorem awVal1 {x:Q} {k:Nat} (hx:x.Bd k) (hk:k≤LIM):field_Valid.sp field_Valid field_Valid.pre [cq x] []=some (true,.bool x.ok,[]):=by
  have h1:=field_Valid.ps hx hk
  have h2:=field_Valid.es hx hk
  simp only [field_Valid.sp,h1,h2]
theorem awQuo1 {x y:Q} (hx:x.Bd 1) (hy:y.Bd 1):direction_quotient.sp direction_quotient direction_quotient.pre [cq x,cq y] []=some (true,.tuple ⟨[.agg ⟨[.int .i64 (dquot x y).1,.int .i64 (dquot x y).2.1]⟩,.int .i64 (dquot x y).2.2]⟩,[]):=by
  have h1:=direction_quotient.ps hx hy (by omega) (by unfold PRM; omega)
  have h2:=direction_quotient.es hx hy (by omega) (by unfold PRM; omega)
  simp only [direction_quotient.sp,h1,h2]
theorem dq3:dquot (qof 3) (qof 25)=(10066329,10066330,0):=by kernel_rfl
theorem dq0:dquot (qof 0) (qof 25)=(0,0,0):=by kernel_rfl
theorem dq4:dquot (qof 4) (qof 25)=(13421772,13421773,0):=by kernel_rfl
def awMul:HSpec:=tabS [([cq (qof 3),cq (qof 3)],cq (qof 9)),([cq (qof 0),cq (qof 0)],cq (qof 0)),([cq (qof 4),cq (qof 4)],cq (qof 16))]
theorem awMul.ok:SOK Tryz.prog 110 awMul:=tabS_ok field_Mul.ok fun p hp=>by
  simp only [List.mem_cons,List.not_mem_nil,or_false] at hp
  rcases hp with rfl|rfl|rfl
  · exact (awMul1 (bd8 (by decide)) (bd8 (by decide)) (by unfold PRM; omega)).trans rfl
  · exact (awMul1 (bd8 (by decide)) (bd8 (by decide)) (by unfold PRM; omega)).trans rfl
  · exact (awMul1 (bd8 (by decide)) (bd8 (by decide)) (by unfold PRM; omega)).trans rfl
def awAdd:HSpec:=tabS [([cq (qof 9),cq (qof 0)],cq (qof 9)),([cq (qof 9),cq (qof 16)],cq (qof 25))]
theorem awAdd.ok:SOK Tryz.prog 112 awAdd:=tabS_ok field_Add.ok fun p hp=>by
  simp only [List.mem_cons,List.not_mem_nil,or_false] at hp
  rcases hp with rfl|rfl
  · exact (awAdd1 (bd8 (by decide)) (bd8 (by decide)) (by unfold PRM; omega) rfl).trans rfl
  · exact (awAdd1 (bd8 (by decide)) (bd8 (by decide)) (by unfold PRM; omega) rfl).trans rfl
def awOf:HSpec:=tabS [([.int .i64 0],cq (qof 0))]
theorem awOf.ok:SOK Tryz.prog 114 awOf:=tabS_ok field_Of.ok fun p hp=>by
  simp only [List.mem_cons,List.not_mem_nil,or_false] at hp
  subst hp
  exact awOf1 (by decide) (by decide)
def awVal:HSpec:=tabS [([cq (qof 3)],.bool true),([cq (qof 0)],.bool true),([cq (qof 4)],.bool true),([cq (qof 1)],.bool true)]
theorem awVal.ok:SOK Tryz.prog 109 awVal:=tabS_ok field_Valid.ok fun p hp=>by
  simp only [List.mem_cons,List.not_mem_nil,or_false] at hp
  rcases hp with rfl|rfl|rfl|rfl
  · exact (awVal1 (bd8 (by decide)) (by unfold LIM; omega)).trans rfl
  · exact (awVal1 (bd8 (by decide)) (by unfold LIM; omega)).trans rfl
  · exact (awVal1 (bd8 (by decide)) (by unfold LIM; omega)).trans rfl
  · exact (awVal1 (bd8 (by decide)) (by unfold LIM; omega)).trans rfl
def awQuo:HSpec:=tabS [([cq (qof 3),cq (qof 25)],.tuple ⟨[.agg ⟨[.int .i64 10066329,.int .i64 10066330]⟩,.int .i64 0]⟩),([cq (qof 0),cq (qof 25)],.tuple ⟨[.agg ⟨[.int .i64 0,.int .i64 0]⟩,.int .i64 0]⟩),([cq (qof 4),cq (qof 25)],.tuple ⟨[.agg ⟨[.int .i64 13421772,.int .i64 13421773]⟩,.int .i64 0]⟩)]
theorem awQuo.ok:SOK Tryz.prog 63 awQuo:=tabS_ok direction_quotient.ok fun p hp=>by
  simp only [List.mem_cons,List.not_mem_nil,or_false] at hp
  rcases hp with rfl|rfl|rfl
  · exact (awQuo1 (bd8 (by decide)) (bd8 (by decide))).trans (by rw [dq3])
  · exact (awQuo1 (bd8 (by decide)) (bd8 (by decide))).trans (by rw [dq0])
  · exact (awQuo1 (bd8 (by decide)) (bd8 (by decide))).trans (by rw [dq4])
def awVec:HSpec:=vvsp awVal
theorem awVec.ok:SOK Tryz.prog 83 awVec:=vvsok awVal.ok
end Go.Proofs.YtpejalpgficopaaGreatDoor.G
end
section
namespace Go.Proofs.YtpejalpgficopaaGreatDoor.G
open Go Go.Proofs Go.RowKit RX
set_option linter.unusedVariables false
noncomputable def y153:HSpec:=self Tryz.prog ⟨[],[(153,Tryz.f153),(153,Tryz.f153)],[]⟩ [] 60 Tryz.f153
theorem y153_ok:SOK Tryz.prog 153 y153:=self_ok ⟨specs_nil,(inl_cons ⟨Tryz.func153,by decide,rfl⟩ (inl_cons ⟨Tryz.func153,by decide,rfl⟩ inl_nil)),mixed_ok,lps_nil⟩ 60 Tryz.func153 (by decide) rfl no_loops
noncomputable def y102:HSpec:=self Tryz.prog ⟨[(153,y153)],[(102,Tryz.f102),(102,Tryz.f102)],[]⟩ [] 60 Tryz.f102
theorem y102_ok:SOK Tryz.prog 102 y102:=self_ok ⟨(specs_cons y153_ok specs_nil),(inl_cons ⟨Tryz.func102,by decide,rfl⟩ (inl_cons ⟨Tryz.func102,by decide,rfl⟩ inl_nil)),mixed_ok,lps_nil⟩ 60 Tryz.func102 (by decide) rfl no_loops
noncomputable def y53:HSpec:=self Tryz.prog ⟨[(102,y102)],[(53,Tryz.f53),(53,Tryz.f53)],[]⟩ [] 60 Tryz.f53
theorem y53_ok:SOK Tryz.prog 53 y53:=self_ok ⟨(specs_cons y102_ok specs_nil),(inl_cons ⟨Tryz.func53,by decide,rfl⟩ (inl_cons ⟨Tryz.func53,by decide,rfl⟩ inl_nil)),mixed_ok,lps_nil⟩ 60 Tryz.func53 (by decide) rfl no_loops
noncomputable def y13:HSpec:=self Tryz.prog ⟨[(53,y53)],[(13,Tryz.f13),(13,Tryz.f13)],[]⟩ [] 60 Tryz.f13
theorem y13_ok:SOK Tryz.prog 13 y13:=self_ok ⟨(specs_cons y53_ok specs_nil),(inl_cons ⟨Tryz.func13,by decide,rfl⟩ (inl_cons ⟨Tryz.func13,by decide,rfl⟩ inl_nil)),mixed_ok,lps_nil⟩ 60 Tryz.func13 (by decide) rfl no_loops
noncomputable def y156:HSpec:=self Tryz.prog ⟨[(114,awOf)],[(156,Tryz.f156),(156,Tryz.f156)],[]⟩ [] 60 Tryz.f156
theorem y156_ok:SOK Tryz.prog 156 y156:=self_ok ⟨(specs_cons awOf.ok specs_nil),(inl_cons ⟨Tryz.func156,by decide,rfl⟩ (inl_cons ⟨Tryz.func156,by decide,rfl⟩ inl_nil)),mixed_ok,lps_nil⟩ 60 Tryz.func156 (by decide) rfl no_loops
noncomputable def y108:HSpec:=self Tryz.prog ⟨[(156,y156)],[(108,Tryz.f108),(108,Tryz.f108)],[]⟩ [] 60 Tryz.f108
theorem y108_ok:SOK Tryz.prog 108 y108:=self_ok ⟨(specs_cons y156_ok specs_nil),(inl_cons ⟨Tryz.func108,by decide,rfl⟩ (inl_cons ⟨Tryz.func108,by decide,rfl⟩ inl_nil)),mixed_ok,lps_nil⟩ 60 Tryz.func108 (by decide) rfl no_loops
noncomputable def y60:HSpec:=self Tryz.prog ⟨[(83,awVec),(108,y108),(109,awVal)],[(60,Tryz.f60),(60,Tryz.f60)],[]⟩ [] 60 Tryz.f60
theorem y60_ok:SOK Tryz.prog 60 y60:=self_ok ⟨(specs_cons awVec.ok (specs_cons y108_ok (specs_cons awVal.ok specs_nil))),(inl_cons ⟨Tryz.func60,by decide,rfl⟩ (inl_cons ⟨Tryz.func60,by decide,rfl⟩ inl_nil)),mixed_ok,lps_nil⟩ 60 Tryz.func60 (by decide) rfl no_loops
noncomputable def y61:HSpec:=self Tryz.prog ⟨[(83,awVec),(110,awMul),(112,awAdd)],[(111,Tryz.f111),(111,Tryz.f111)],[]⟩ [] 60 Tryz.f61
theorem y61_ok:SOK Tryz.prog 61 y61:=self_ok ⟨(specs_cons awVec.ok (specs_cons awMul.ok (specs_cons awAdd.ok specs_nil))),(inl_cons ⟨Tryz.func111,by decide,rfl⟩ (inl_cons ⟨Tryz.func111,by decide,rfl⟩ inl_nil)),mixed_ok,lps_nil⟩ 60 Tryz.func61 (by decide) rfl no_loops
noncomputable def y62:HSpec:=self Tryz.prog ⟨[],[(62,Tryz.f62),(62,Tryz.f62)],[]⟩ [] 60 Tryz.f62
theorem y62_ok:SOK Tryz.prog 62 y62:=self_ok ⟨specs_nil,(inl_cons ⟨Tryz.func62,by decide,rfl⟩ (inl_cons ⟨Tryz.func62,by decide,rfl⟩ inl_nil)),mixed_ok,lps_nil⟩ 60 Tryz.func62 (by decide) rfl no_loops
noncomputable def y64:HSpec:=self Tryz.prog ⟨[],[(64,Tryz.f64),(64,Tryz.f64)],[]⟩ [] 60 Tryz.f64
theorem y64_ok:SOK Tryz.prog 64 y64:=self_ok ⟨specs_nil,(inl_cons ⟨Tryz.func64,by decide,rfl⟩ (inl_cons ⟨Tryz.func64,by decide,rfl⟩ inl_nil)),mixed_ok,lps_nil⟩ 60 Tryz.func64 (by decide) rfl no_loops
noncomputable def y18:HSpec:=self Tryz.prog ⟨[(60,y60),(61,y61),(62,y62),(63,awQuo),(64,y64)],[(18,Tryz.f18),(18,Tryz.f18)],[]⟩ [] 60 Tryz.f18
theorem y18_ok:SOK Tryz.prog 18 y18:=self_ok ⟨(specs_cons y60_ok (specs_cons y61_ok (specs_cons y62_ok (specs_cons awQuo.ok (specs_cons y64_ok specs_nil))))),(inl_cons ⟨Tryz.func18,by decide,rfl⟩ (inl_cons ⟨Tryz.func18,by decide,rfl⟩ inl_nil)),mixed_ok,lps_nil⟩ 60 Tryz.func18 (by decide) rfl no_loops
noncomputable def y65:HSpec:=self Tryz.prog ⟨[],[(65,Tryz.f65),(65,Tryz.f65)],[]⟩ [] 60 Tryz.f65
theorem y65_ok:SOK Tryz.prog 65 y65:=self_ok ⟨specs_nil,(inl_cons ⟨Tryz.func65,by decide,rfl⟩ (inl_cons ⟨Tryz.func65,by decide,rfl⟩ inl_nil)),mixed_ok,lps_nil⟩ 60 Tryz.func65 (by decide) rfl no_loops
noncomputable def y117:HSpec:=self Tryz.prog ⟨[],[(117,Tryz.f117),(117,Tryz.f117)],[]⟩ [] 60 Tryz.f117
theorem y117_ok:SOK Tryz.prog 117 y117:=self_ok ⟨specs_nil,(inl_cons ⟨Tryz.func117,by decide,rfl⟩ (inl_cons ⟨Tryz.func117,by decide,rfl⟩ inl_nil)),mixed_ok,lps_nil⟩ 60 Tryz.func117 (by decide) rfl no_loops
noncomputable def y118:HSpec:=self Tryz.prog ⟨[],[(118,Tryz.f118),(118,Tryz.f118)],[]⟩ [] 60 Tryz.f118
theorem y118_ok:SOK Tryz.prog 118 y118:=self_ok ⟨specs_nil,(inl_cons ⟨Tryz.func118,by decide,rfl⟩ (inl_cons ⟨Tryz.func118,by decide,rfl⟩ inl_nil)),mixed_ok,lps_nil⟩ 60 Tryz.func118 (by decide) rfl no_loops
noncomputable def y119:HSpec:=self Tryz.prog ⟨[],[(119,Tryz.f119),(119,Tryz.f119)],[]⟩ [] 60 Tryz.f119
theorem y119_ok:SOK Tryz.prog 119 y119:=self_ok ⟨specs_nil,(inl_cons ⟨Tryz.func119,by decide,rfl⟩ (inl_cons ⟨Tryz.func119,by decide,rfl⟩ inl_nil)),mixed_ok,lps_nil⟩ 60 Tryz.func119 (by decide) rfl no_loops
noncomputable def y120:HSpec:=self Tryz.prog ⟨[(119,y119)],[(120,Tryz.f120),(120,Tryz.f120)],[]⟩ [] 60 Tryz.f120
theorem y120_ok:SOK Tryz.prog 120 y120:=self_ok ⟨(specs_cons y119_ok specs_nil),(inl_cons ⟨Tryz.func120,by decide,rfl⟩ (inl_cons ⟨Tryz.func120,by decide,rfl⟩ inl_nil)),mixed_ok,lps_nil⟩ 60 Tryz.func120 (by decide) rfl no_loops
noncomputable def y67:HSpec:=self Tryz.prog ⟨[(65,y65),(117,y117),(118,y118),(119,y119),(120,y120)],[(67,Tryz.f67),(67,Tryz.f67)],[]⟩ [] 60 Tryz.f67
theorem y67_ok:SOK Tryz.prog 67 y67:=self_ok ⟨(specs_cons y65_ok (specs_cons y117_ok (specs_cons y118_ok (specs_cons y119_ok (specs_cons y120_ok specs_nil))))),(inl_cons ⟨Tryz.func67,by decide,rfl⟩ (inl_cons ⟨Tryz.func67,by decide,rfl⟩ inl_nil)),mixed_ok,lps_nil⟩ 60 Tryz.func67 (by decide) rfl no_loops
noncomputable def y130:HSpec:=self Tryz.prog ⟨[],[(130,Tryz.f130),(130,Tryz.f130)],[]⟩ [] 60 Tryz.f130
theorem y130_ok:SOK Tryz.prog 130 y130:=self_ok ⟨specs_nil,(inl_cons ⟨Tryz.func130,by decide,rfl⟩ (inl_cons ⟨Tryz.func130,by decide,rfl⟩ inl_nil)),mixed_ok,lps_nil⟩ 60 Tryz.func130 (by decide) rfl no_loops
noncomputable def y81:HSpec:=self Tryz.prog ⟨[(65,y65),(118,y118),(130,y130)],[(81,Tryz.f81),(81,Tryz.f81)],[]⟩ [] 60 Tryz.f81
theorem y81_ok:SOK Tryz.prog 81 y81:=self_ok ⟨(specs_cons y65_ok (specs_cons y118_ok (specs_cons y130_ok specs_nil))),(inl_cons ⟨Tryz.func81,by decide,rfl⟩ (inl_cons ⟨Tryz.func81,by decide,rfl⟩ inl_nil)),mixed_ok,lps_nil⟩ 60 Tryz.func81 (by decide) rfl no_loops
noncomputable def y66:HSpec:=self Tryz.prog ⟨[(62,y62),(67,y67),(81,y81)],[(66,Tryz.f66),(66,Tryz.f66)],[]⟩ [] 60 Tryz.f66
theorem y66_ok:SOK Tryz.prog 66 y66:=self_ok ⟨(specs_cons y62_ok (specs_cons y67_ok (specs_cons y81_ok specs_nil))),(inl_cons ⟨Tryz.func66,by decide,rfl⟩ (inl_cons ⟨Tryz.func66,by decide,rfl⟩ inl_nil)),mixed_ok,lps_nil⟩ 60 Tryz.func66 (by decide) rfl no_loops
noncomputable def y129:HSpec:=self Tryz.prog ⟨[(65,y65)],[(129,Tryz.f129),(129,Tryz.f129)],[]⟩ [] 60 Tryz.f129
theorem y129_ok:SOK Tryz.prog 129 y129:=self_ok ⟨(specs_cons y65_ok specs_nil),(inl_cons ⟨Tryz.func129,by decide,rfl⟩ (inl_cons ⟨Tryz.func129,by decide,rfl⟩ inl_nil)),mixed_ok,lps_nil⟩ 60 Tryz.func129 (by decide) rfl no_loops
noncomputable def y122:HSpec:=self Tryz.prog ⟨[(118,y118),(129,y129)],[(122,Tryz.f122),(122,Tryz.f122)],[]⟩ [] 60 Tryz.f122
theorem y122_ok:SOK Tryz.prog 122 y122:=self_ok ⟨(specs_cons y118_ok (specs_cons y129_ok specs_nil)),(inl_cons ⟨Tryz.func122,by decide,rfl⟩ (inl_cons ⟨Tryz.func122,by decide,rfl⟩ inl_nil)),mixed_ok,lps_nil⟩ 60 Tryz.func122 (by decide) rfl no_loops
noncomputable def y123:HSpec:=self Tryz.prog ⟨[(117,y117),(118,y118),(119,y119),(120,y120),(129,y129)],[(123,Tryz.f123),(123,Tryz.f123)],[]⟩ [] 60 Tryz.f123
theorem y123_ok:SOK Tryz.prog 123 y123:=self_ok ⟨(specs_cons y117_ok (specs_cons y118_ok (specs_cons y119_ok (specs_cons y120_ok (specs_cons y129_ok specs_nil))))),(inl_cons ⟨Tryz.func123,by decide,rfl⟩ (inl_cons ⟨Tryz.func123,by decide,rfl⟩ inl_nil)),mixed_ok,lps_nil⟩ 60 Tryz.func123 (by decide) rfl no_loops
noncomputable def y124:HSpec:=self Tryz.prog ⟨[(118,y118),(129,y129)],[(124,Tryz.f124),(124,Tryz.f124)],[]⟩ [] 60 Tryz.f124
theorem y124_ok:SOK Tryz.prog 124 y124:=self_ok ⟨(specs_cons y118_ok (specs_cons y129_ok specs_nil)),(inl_cons ⟨Tryz.func124,by decide,rfl⟩ (inl_cons ⟨Tryz.func124,by decide,rfl⟩ inl_nil)),mixed_ok,lps_nil⟩ 60 Tryz.func124 (by decide) rfl no_loops
noncomputable def y127:HSpec:=self Tryz.prog ⟨[(117,y117),(118,y118),(119,y119),(120,y120),(129,y129)],[(127,Tryz.f127),(127,Tryz.f127)],[]⟩ [] 60 Tryz.f127
theorem y127_ok:SOK Tryz.prog 127 y127:=self_ok ⟨(specs_cons y117_ok (specs_cons y118_ok (specs_cons y119_ok (specs_cons y120_ok (specs_cons y129_ok specs_nil))))),(inl_cons ⟨Tryz.func127,by decide,rfl⟩ (inl_cons ⟨Tryz.func127,by decide,rfl⟩ inl_nil)),mixed_ok,lps_nil⟩ 60 Tryz.func127 (by decide) rfl no_loops
noncomputable def y121:HSpec:=self Tryz.prog ⟨[(62,y62),(122,y122),(123,y123),(124,y124),(127,y127)],[(121,Tryz.f121),(121,Tryz.f121)],[]⟩ [] 60 Tryz.f121
theorem y121_ok:SOK Tryz.prog 121 y121:=self_ok ⟨(specs_cons y62_ok (specs_cons y122_ok (specs_cons y123_ok (specs_cons y124_ok (specs_cons y127_ok specs_nil))))),(inl_cons ⟨Tryz.func121,by decide,rfl⟩ (inl_cons ⟨Tryz.func121,by decide,rfl⟩ inl_nil)),mixed_ok,lps_nil⟩ 60 Tryz.func121 (by decide) rfl no_loops
noncomputable def y68:HSpec:=self Tryz.prog ⟨[(122,y122),(121,y121)],[(68,Tryz.f68),(68,Tryz.f68)],[]⟩ [] 60 Tryz.f68
theorem y68_ok:SOK Tryz.prog 68 y68:=self_ok ⟨(specs_cons y122_ok (specs_cons y121_ok specs_nil)),(inl_cons ⟨Tryz.func68,by decide,rfl⟩ (inl_cons ⟨Tryz.func68,by decide,rfl⟩ inl_nil)),mixed_ok,lps_nil⟩ 60 Tryz.func68 (by decide) rfl no_loops
noncomputable def y69:HSpec:=self Tryz.prog ⟨[(123,y123),(121,y121)],[(69,Tryz.f69),(69,Tryz.f69)],[]⟩ [] 60 Tryz.f69
theorem y69_ok:SOK Tryz.prog 69 y69:=self_ok ⟨(specs_cons y123_ok (specs_cons y121_ok specs_nil)),(inl_cons ⟨Tryz.func69,by decide,rfl⟩ (inl_cons ⟨Tryz.func69,by decide,rfl⟩ inl_nil)),mixed_ok,lps_nil⟩ 60 Tryz.func69 (by decide) rfl no_loops
noncomputable def y70:HSpec:=self Tryz.prog ⟨[(124,y124),(121,y121)],[(70,Tryz.f70),(70,Tryz.f70)],[]⟩ [] 60 Tryz.f70
theorem y70_ok:SOK Tryz.prog 70 y70:=self_ok ⟨(specs_cons y124_ok (specs_cons y121_ok specs_nil)),(inl_cons ⟨Tryz.func70,by decide,rfl⟩ (inl_cons ⟨Tryz.func70,by decide,rfl⟩ inl_nil)),mixed_ok,lps_nil⟩ 60 Tryz.func70 (by decide) rfl no_loops
noncomputable def y20:HSpec:=self Tryz.prog ⟨[(64,y64),(65,y65),(67,y67),(66,y66),(68,y68),(69,y69),(70,y70)],[(20,Tryz.f20),(20,Tryz.f20)],[]⟩ [] 60 Tryz.f20
theorem y20_ok:SOK Tryz.prog 20 y20:=self_ok ⟨(specs_cons y64_ok (specs_cons y65_ok (specs_cons y67_ok (specs_cons y66_ok (specs_cons y68_ok (specs_cons y69_ok (specs_cons y70_ok specs_nil))))))),(inl_cons ⟨Tryz.func20,by decide,rfl⟩ (inl_cons ⟨Tryz.func20,by decide,rfl⟩ inl_nil)),mixed_ok,lps_nil⟩ 60 Tryz.func20 (by decide) rfl no_loops
noncomputable def y49:HSpec:=self Tryz.prog ⟨[(65,y65)],[(49,Tryz.f49),(49,Tryz.f49)],[]⟩ [] 60 Tryz.f49
theorem y49_ok:SOK Tryz.prog 49 y49:=self_ok ⟨(specs_cons y65_ok specs_nil),(inl_cons ⟨Tryz.func49,by decide,rfl⟩ (inl_cons ⟨Tryz.func49,by decide,rfl⟩ inl_nil)),mixed_ok,lps_nil⟩ 60 Tryz.func49 (by decide) rfl no_loops
def culetlaw28_awake.sp:HSpec
  |[],[]=>some (true,.bool true,[])
  |_,_=>none
set_option maxRecDepth 100000 in
theorem culetlaw28_awake.run:xfn Tryz.prog ⟨[(13,y13),(18,y18),(20,y20),(49,y49)],[(10,Tryz.f10),(10,Tryz.f10)],[]⟩ [] 60 Tryz.f10 [] []=some (.bool true,[]):=by kernel_rfl
theorem culetlaw28_awake.ok:SOK Tryz.prog 10 culetlaw28_awake.sp:=by
  refine sok_of (E:=⟨[(13,y13),(18,y18),(20,y20),(49,y49)],[(10,Tryz.f10),(10,Tryz.f10)],[]⟩) (L:=[]) ⟨(specs_cons y13_ok (specs_cons y18_ok (specs_cons y20_ok (specs_cons y49_ok specs_nil)))),(inl_cons ⟨Tryz.func10,by decide,rfl⟩ (inl_cons ⟨Tryz.func10,by decide,rfl⟩ inl_nil)),mixed_ok,lps_nil⟩ 60 Tryz.func10 (by decide) rfl no_loops fun vs bl v bl' h=> ?_
  unfold culetlaw28_awake.sp at h
  split at h
  · simp only [Option.some.injEq,Prod.mk.injEq,true_and] at h
    obtain ⟨rfl,rfl⟩:=h
    exact ⟨culetlaw28_awake.run,by simp [okV],clo_spec 8 _ rfl,told_blk rfl⟩
  · cases h
end Go.Proofs.YtpejalpgficopaaGreatDoor.G
end
