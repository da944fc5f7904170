/- A part of what the law's proof leans on. PACKED BY pack.py of this repo. -/
import Derived.Test.YtpejalpgficopaaGreatDoorR7
section
namespace Go.Proofs.YtpejalpgficopaaGreatDoor.G
open Go Go.Proofs RX
set_option linter.unusedVariables false
set_option linter.defProp false
set_option linter.unusedSimpArgs false
set_option maxRecDepth 100000 in
theorem rDM0.run (na:Bool) (sa:ByteArray) (nb:Bool) (sb:ByteArray):xfn Tryz.prog ⟨[(157,Valid.sp),(188,of.sp),(187,with.sp),(203,div0.sp),(169,Sub.sp),(160,Of.sp),(162,Add.sp)],[],[]⟩ [] 10 Tryz.f198 [.agg ⟨[.bool na,.string sa]⟩,.agg ⟨[.bool nb,.string sb]⟩] []=
 bif !vld na sa then some ((Value.tuple ⟨[Value.agg ⟨[Value.bool false,Value.string (⟨#[]⟩:ByteArray)]⟩,Value.agg ⟨[Value.bool false,Value.string (⟨#[]⟩:ByteArray)]⟩,Value.int IntKind.i64 1]⟩,[])) else bif !vld nb sb then some ((Value.tuple ⟨[Value.agg ⟨[Value.bool false,Value.string (⟨#[]⟩:ByteArray)]⟩,Value.agg ⟨[Value.bool false,Value.string (⟨#[]⟩:ByteArray)]⟩,Value.int IntKind.i64 1]⟩,[])) else bif sb.toList==(⟨#[]⟩:ByteArray).toList then some ((Value.tuple ⟨[Value.agg ⟨[Value.bool false,Value.string (⟨#[]⟩:ByteArray)]⟩,Value.agg ⟨[Value.bool false,Value.string (⟨#[]⟩:ByteArray)]⟩,Value.int IntKind.i64 10]⟩,[])) else bif sa.size.ble 8589934592 then bif sb.size.ble 8589934592 then bif natOk 0 (tl (dg (nd sa) (bv sa.data.toList))) (dg (nd sa) (bv sa.data.toList))&&natOk 0 (tl (dg (nd sb) (bv sb.data.toList))) (dg (nd sb) (bv sb.data.toList))&&decide (cmpI (tl (dg (nd sa) (bv sa.data.toList))) (tl (dg (nd sb) (bv sb.data.toList))) (nv (seg (dg (nd sa) (bv sa.data.toList)) 0 (tl (dg (nd sa) (bv sa.data.toList))))) (nv (seg (dg (nd sb) (bv sb.data.toList)) 0 (tl (dg (nd sb) (bv sb.data.toList)))))<0) then bif natOk 0 (tl (dg (nd sa) (bv sa.data.toList))) (dg (nd sa) (bv sa.data.toList)) then bif !(str (enc (nv (seg (dg (nd sa) (bv sa.data.toList)) 0 (tl (dg (nd sa) (bv sa.data.toList))))))).toList==(⟨#[]⟩:ByteArray).toList then bif !na==nb then bif szOk (str (enc (nv (seg (dg (nd sa) (bv sa.data.toList)) 0 (tl (dg (nd sa) (bv sa.data.toList)))))))&&szOk sb then some ((Value.tuple ⟨[Value.agg ⟨[Value.bool (decide ((bif vld (!na==nb&& !(0:Int)==0) (str (enc 0))&&vld (decide ((1:Int)<0)) (str (enc ((Int.natAbs 1:Nat):Int))) then vl (!na==nb&& !(0:Int)==0) (str (enc 0))-vl (decide ((1:Int)<0)) (str (enc ((Int.natAbs 1:Nat):Int))) else 0)<0)),Value.string (str (enc (((bif vld (!na==nb&& !(0:Int)==0) (str (enc 0))&&vld (decide ((1:Int)<0)) (str (enc ((Int.natAbs 1:Nat):Int))) then vl (!na==nb&& !(0:Int)==0) (str (enc 0))-vl (decide ((1:Int)<0)) (str (enc ((Int.natAbs 1:Nat):Int))) else 0).natAbs:Nat):Int)))]⟩,Value.agg ⟨[Value.bool (decide ((bif vld (na&& !nv (seg (dg (nd sa) (bv sa.data.toList)) 0 (tl (dg (nd sa) (bv sa.data.toList))))==0) (str (enc (nv (seg (dg (nd sa) (bv sa.data.toList)) 0 (tl (dg (nd sa) (bv sa.data.toList)))))))&&vld nb sb then vl (na&& !nv (seg (dg (nd sa) (bv sa.data.toList)) 0 (tl (dg (nd sa) (bv sa.data.toList))))==0) (str (enc (nv (seg (dg (nd sa) (bv sa.data.toList)) 0 (tl (dg (nd sa) (bv sa.data.toList)))))))+vl nb sb else 0)<0)),Value.string (str (enc (((bif vld (na&& !nv (seg (dg (nd sa) (bv sa.data.toList)) 0 (tl (dg (nd sa) (bv sa.data.toList))))==0) (str (enc (nv (seg (dg (nd sa) (bv sa.data.toList)) 0 (tl (dg (nd sa) (bv sa.data.toList)))))))&&vld nb sb then vl (na&& !nv (seg (dg (nd sa) (bv sa.data.toList)) 0 (tl (dg (nd sa) (bv sa.data.toList))))==0) (str (enc (nv (seg (dg (nd sa) (bv sa.data.toList)) 0 (tl (dg (nd sa) (bv sa.data.toList)))))))+vl nb sb else 0).natAbs:Nat):Int)))]⟩,Value.int IntKind.i64 0]⟩,[])) else
 none else some ((Value.tuple ⟨[Value.agg ⟨[Value.bool (!na==nb&& !(0:Int)==0),Value.string (str (enc 0))]⟩,Value.agg ⟨[Value.bool (na&& !nv (seg (dg (nd sa) (bv sa.data.toList)) 0 (tl (dg (nd sa) (bv sa.data.toList))))==0),Value.string (str (enc (nv (seg (dg (nd sa) (bv sa.data.toList)) 0 (tl (dg (nd sa) (bv sa.data.toList)))))))]⟩,Value.int IntKind.i64 0]⟩,[])) else some ((Value.tuple ⟨[Value.agg ⟨[Value.bool (!na==nb&& !(0:Int)==0),Value.string (str (enc 0))]⟩,Value.agg ⟨[Value.bool (na&& !nv (seg (dg (nd sa) (bv sa.data.toList)) 0 (tl (dg (nd sa) (bv sa.data.toList))))==0),Value.string (str (enc (nv (seg (dg (nd sa) (bv sa.data.toList)) 0 (tl (dg (nd sa) (bv sa.data.toList)))))))]⟩,Value.int IntKind.i64 0]⟩,[])) else none else none else none else none:=by kernel_rfl
def rDM0.run0:=fun na sa nb sb h0=>((rDM0.run na sa nb sb).ct h0)
def rDM0.run1:=fun na sa nb sb h0 h1=>(((rDM0.run na sa nb sb).cf h0).ct h1)
def rDM0.run2:=fun na sa nb sb h0 h1 h2=>((((rDM0.run na sa nb sb).cf h0).cf h1).ct h2)
def rDM0.run3:=fun na sa nb sb h0 h1 h2 h3 h4 h5 h6 h7 h8 h9=>(((((((((((rDM0.run na sa nb sb).cf h0).cf h1).cf h2).ct h3).ct h4).ct h5).ct h6).ct h7).ct h8).ct h9)
def rDM0.run4:=fun na sa nb sb h0 h1 h2 h3 h4 h5 h6 h7 h8=>((((((((((rDM0.run na sa nb sb).cf h0).cf h1).cf h2).ct h3).ct h4).ct h5).ct h6).ct h7).cf h8)
def rDM0.run5:=fun na sa nb sb h0 h1 h2 h3 h4 h5 h6 h7=>(((((((((rDM0.run na sa nb sb).cf h0).cf h1).cf h2).ct h3).ct h4).ct h5).ct h6).cf h7)
set_option maxRecDepth 100000 in
theorem rDM1.run (na:Bool) (sa:ByteArray) (nb:Bool) (sb:ByteArray):xfn Tryz.prog ⟨[(157,Valid.sp),(188,of.sp),(187,with.sp),(203,div1.sp),(169,Sub.sp),(160,Of.sp),(162,Add.sp)],[],[]⟩ [] 10 Tryz.f198 [.agg ⟨[.bool na,.string sa]⟩,.agg ⟨[.bool nb,.string sb]⟩] []=
 bif !vld na sa then some ((Value.tuple ⟨[Value.agg ⟨[Value.bool false,Value.string (⟨#[]⟩:ByteArray)]⟩,Value.agg ⟨[Value.bool false,Value.string (⟨#[]⟩:ByteArray)]⟩,Value.int IntKind.i64 1]⟩,[])) else bif !vld nb sb then some ((Value.tuple ⟨[Value.agg ⟨[Value.bool false,Value.string (⟨#[]⟩:ByteArray)]⟩,Value.agg ⟨[Value.bool false,Value.string (⟨#[]⟩:ByteArray)]⟩,Value.int IntKind.i64 1]⟩,[])) else bif sb.toList==(⟨#[]⟩:ByteArray).toList then some ((Value.tuple ⟨[Value.agg ⟨[Value.bool false,Value.string (⟨#[]⟩:ByteArray)]⟩,Value.agg ⟨[Value.bool false,Value.string (⟨#[]⟩:ByteArray)]⟩,Value.int IntKind.i64 10]⟩,[])) else bif sa.size.ble 8589934592 then bif sb.size.ble 8589934592 then bif natOk 0 (tl (dg (nd sa) (bv sa.data.toList))) (dg (nd sa) (bv sa.data.toList))&&(natOk 0 (tl (dg (nd sb) (bv sb.data.toList))) (dg (nd sb) (bv sb.data.toList))&&((tl (dg (nd sb) (bv sb.data.toList))).beq 1&&(decide (0≤cmpI (tl (dg (nd sa) (bv sa.data.toList))) (tl (dg (nd sb) (bv sb.data.toList))) (nv (seg (dg (nd sa) (bv sa.data.toList)) 0 (tl (dg (nd sa) (bv sa.data.toList))))) (nv (seg (dg (nd sb) (bv sb.data.toList)) 0 (tl (dg (nd sb) (bv sb.data.toList))))))&&decide (0<nv (seg (dg (nd sb) (bv sb.data.toList)) 0 (tl (dg (nd sb) (bv sb.data.toList)))))))) then bif natOk 0 (tl (dg (tl (dg (nd sa) (bv sa.data.toList))) (nv (seg (dg (nd sa) (bv sa.data.toList)) 0 (tl (dg (nd sa) (bv sa.data.toList))))/nv (seg (dg (nd sb) (bv sb.data.toList)) 0 (tl (dg (nd sb) (bv sb.data.toList))))))) (dg (tl (dg (nd sa) (bv sa.data.toList))) (nv (seg (dg (nd sa) (bv sa.data.toList)) 0 (tl (dg (nd sa) (bv sa.data.toList))))/nv (seg (dg (nd sb) (bv sb.data.toList)) 0 (tl (dg (nd sb) (bv sb.data.toList)))))) then bif natOk 0 (tl (dg 1 (nv (seg (dg (nd sa) (bv sa.data.toList)) 0 (tl (dg (nd sa) (bv sa.data.toList))))%nv (seg (dg (nd sb) (bv sb.data.toList)) 0 (tl (dg (nd sb) (bv sb.data.toList))))))) (dg 1 (nv (seg (dg (nd sa) (bv sa.data.toList)) 0 (tl (dg (nd sa) (bv sa.data.toList))))%nv (seg (dg (nd sb) (bv sb.data.toList)) 0 (tl (dg (nd sb) (bv sb.data.toList)))))) then bif !(str (enc (nv (seg (dg 1 (nv (seg (dg (nd sa) (bv sa.data.toList)) 0 (tl (dg (nd sa) (bv sa.data.toList))))%nv (seg (dg (nd sb) (bv sb.data.toList)) 0 (tl (dg (nd sb) (bv sb.data.toList)))))) 0 (tl (dg 1 (nv (seg (dg (nd sa) (bv sa.data.toList)) 0 (tl (dg (nd sa) (bv sa.data.toList))))%nv (seg (dg (nd sb) (bv sb.data.toList)) 0 (tl (dg (nd sb) (bv sb.data.toList))))))))))).toList==(⟨#[]⟩:ByteArray).toList then bif !na==nb then bif szOk (str (enc (nv (seg (dg (tl (dg (nd sa) (bv sa.data.toList))) (nv (seg (dg (nd sa) (bv sa.data.toList)) 0 (tl (dg (nd sa) (bv sa.data.toList))))/nv (seg (dg (nd sb) (bv sb.data.toList)) 0 (tl (dg (nd sb) (bv sb.data.toList)))))) 0 (tl (dg (tl (dg (nd sa) (bv sa.data.toList))) (nv (seg (dg (nd sa) (bv sa.data.toList)) 0 (tl (dg (nd sa) (bv sa.data.toList))))/nv (seg (dg (nd sb) (bv sb.data.toList)) 0 (tl (dg (nd sb) (bv sb.data.toList)))))))))))&&szOk (str (enc ((Int.natAbs 1:Nat):Int))) then
 bif szOk (str (enc (nv (seg (dg 1 (nv (seg (dg (nd sa) (bv sa.data.toList)) 0 (tl (dg (nd sa) (bv sa.data.toList))))%nv (seg (dg (nd sb) (bv sb.data.toList)) 0 (tl (dg (nd sb) (bv sb.data.toList)))))) 0 (tl (dg 1 (nv (seg (dg (nd sa) (bv sa.data.toList)) 0 (tl (dg (nd sa) (bv sa.data.toList))))%nv (seg (dg (nd sb) (bv sb.data.toList)) 0 (tl (dg (nd sb) (bv sb.data.toList)))))))))))&&szOk sb then some ((Value.tuple ⟨[Value.agg ⟨[Value.bool (decide ((bif vld (!na==nb&& !nv (seg (dg (tl (dg (nd sa) (bv sa.data.toList))) (nv (seg (dg (nd sa) (bv sa.data.toList)) 0 (tl (dg (nd sa) (bv sa.data.toList))))/nv (seg (dg (nd sb) (bv sb.data.toList)) 0 (tl (dg (nd sb) (bv sb.data.toList)))))) 0 (tl (dg (tl (dg (nd sa) (bv sa.data.toList))) (nv (seg (dg (nd sa) (bv sa.data.toList)) 0 (tl (dg (nd sa) (bv sa.data.toList))))/nv (seg (dg (nd sb) (bv sb.data.toList)) 0 (tl (dg (nd sb) (bv sb.data.toList))))))))==0) (str (enc (nv (seg (dg (tl (dg (nd sa) (bv sa.data.toList))) (nv (seg (dg (nd sa) (bv sa.data.toList)) 0 (tl (dg (nd sa) (bv sa.data.toList))))/nv (seg (dg (nd sb) (bv sb.data.toList)) 0 (tl (dg (nd sb) (bv sb.data.toList)))))) 0 (tl (dg (tl (dg (nd sa) (bv sa.data.toList))) (nv (seg (dg (nd sa) (bv sa.data.toList)) 0 (tl (dg (nd sa) (bv sa.data.toList))))/nv (seg (dg (nd sb) (bv sb.data.toList)) 0 (tl (dg (nd sb) (bv sb.data.toList)))))))))))&&vld (decide ((1:Int)<0)) (str (enc ((Int.natAbs 1:Nat):Int))) then vl (!na==nb&& !nv (seg (dg (tl (dg (nd sa) (bv sa.data.toList))) (nv (seg (dg (nd sa) (bv sa.data.toList)) 0 (tl (dg (nd sa) (bv sa.data.toList))))/nv (seg (dg (nd sb) (bv sb.data.toList)) 0 (tl (dg (nd sb) (bv sb.data.toList)))))) 0 (tl (dg (tl (dg (nd sa) (bv sa.data.toList))) (nv (seg (dg (nd sa) (bv sa.data.toList)) 0 (tl (dg (nd sa) (bv sa.data.toList))))/nv (seg (dg (nd sb) (bv sb.data.toList)) 0 (tl (dg (nd sb) (bv sb.data.toList))))))))==0) (str (enc (nv (seg (dg (tl (dg (nd sa) (bv sa.data.toList))) (nv (seg (dg (nd sa) (bv sa.data.toList)) 0 (tl (dg (nd sa) (bv sa.data.toList))))/nv (seg (dg (nd sb) (bv sb.data.toList)) 0 (tl (dg (nd sb) (bv sb.data.toList)))))) 0 (tl (dg (tl (dg (nd sa) (bv sa.data.toList))) (nv (seg (dg (nd sa) (bv sa.data.toList)) 0 (tl (dg (nd sa) (bv sa.data.toList))))/nv (seg (dg (nd sb) (bv sb.data.toList)) 0 (tl (dg (nd sb) (bv sb.data.toList)))))))))))-vl (decide ((1:Int)<0)) (str (enc ((Int.natAbs 1:Nat):Int))) else 0)<0)),Value.string (str (enc (((bif vld (!na==nb&& !nv (seg (dg (tl (dg (nd sa) (bv sa.data.toList))) (nv (seg (dg (nd sa) (bv sa.data.toList)) 0 (tl (dg (nd sa) (bv sa.data.toList))))/nv (seg (dg (nd sb) (bv sb.data.toList)) 0 (tl (dg (nd sb) (bv sb.data.toList)))))) 0 (tl (dg (tl (dg (nd sa) (bv sa.data.toList))) (nv (seg (dg (nd sa) (bv sa.data.toList)) 0 (tl (dg (nd sa) (bv sa.data.toList))))/nv (seg (dg (nd sb) (bv sb.data.toList)) 0 (tl (dg (nd sb) (bv sb.data.toList))))))))==0) (str (enc (nv (seg (dg (tl (dg (nd sa) (bv sa.data.toList))) (nv (seg (dg (nd sa) (bv sa.data.toList)) 0 (tl (dg (nd sa) (bv sa.data.toList))))/nv (seg (dg (nd sb) (bv sb.data.toList)) 0 (tl (dg (nd sb) (bv sb.data.toList)))))) 0 (tl (dg (tl (dg (nd sa) (bv sa.data.toList))) (nv (seg (dg (nd sa) (bv sa.data.toList)) 0 (tl (dg (nd sa) (bv sa.data.toList))))/nv (seg (dg (nd sb) (bv sb.data.toList)) 0 (tl (dg (nd sb) (bv sb.data.toList)))))))))))&&vld (decide ((1:Int)<0)) (str (enc ((Int.natAbs 1:Nat):Int))) then vl (!na==nb&& !nv (seg (dg (tl (dg (nd sa) (bv sa.data.toList))) (nv (seg (dg (nd sa) (bv sa.data.toList)) 0 (tl (dg (nd sa) (bv sa.data.toList))))/nv (seg (dg (nd sb) (bv sb.data.toList)) 0 (tl (dg (nd sb) (bv sb.data.toList)))))) 0 (tl (dg (tl (dg (nd sa) (bv sa.data.toList))) (nv (seg (dg (nd sa) (bv sa.data.toList)) 0 (tl (dg (nd sa) (bv sa.data.toList))))/nv (seg (dg (nd sb) (bv sb.data.toList)) 0 (tl (dg (nd sb) (bv sb.data.toList))))))))==0) (str (enc (nv (seg (dg (tl (dg (nd sa) (bv sa.data.toList))) (nv (seg (dg (nd sa) (bv sa.data.toList)) 0 (tl (dg (nd sa) (bv sa.data.toList))))/nv (seg (dg (nd sb) (bv sb.data.toList)) 0 (tl (dg (nd sb) (bv sb.data.toList)))))) 0 (tl (dg (tl (dg (nd sa) (bv sa.data.toList))) (nv (seg (dg (nd sa) (bv sa.data.toList)) 0 (tl (dg (nd sa) (bv sa.data.toList))))/nv (seg (dg (nd sb) (bv sb.data.toList)) 0 (tl (dg (nd sb) (bv sb.data.toList)))))))))))-vl (decide ((1:Int)<0)) (str (enc ((Int.natAbs 1:Nat):Int))) else 0).natAbs:Nat):Int)))]⟩,Value.agg ⟨[Value.bool (decide ((bif vld (na&& !nv (seg (dg 1 (nv (seg (dg (nd sa) (bv sa.data.toList)) 0 (tl (dg (nd sa) (bv sa.data.toList))))%nv (seg (dg (nd sb) (bv sb.data.toList)) 0 (tl (dg (nd sb) (bv sb.data.toList)))))) 0 (tl (dg 1 (nv (seg (dg (nd sa) (bv sa.data.toList)) 0 (tl (dg (nd sa) (bv sa.data.toList))))%nv (seg (dg (nd sb) (bv sb.data.toList)) 0 (tl (dg (nd sb) (bv sb.data.toList))))))))==0) (str (enc (nv (seg (dg 1 (nv (seg (dg (nd sa) (bv sa.data.toList)) 0 (tl (dg (nd sa) (bv sa.data.toList))))%nv (seg (dg (nd sb) (bv sb.data.toList)) 0 (tl (dg (nd sb) (bv sb.data.toList)))))) 0 (tl (dg 1 (nv (seg (dg (nd sa) (bv sa.data.toList)) 0 (tl (dg (nd sa) (bv sa.data.toList))))%nv (seg (dg (nd sb) (bv sb.data.toList)) 0 (tl (dg (nd sb) (bv sb.data.toList)))))))))))&&vld nb sb then vl (na&& !nv (seg (dg 1 (nv (seg (dg (nd sa) (bv sa.data.toList)) 0 (tl (dg (nd sa) (bv sa.data.toList))))%nv (seg (dg (nd sb) (bv sb.data.toList)) 0 (tl (dg (nd sb) (bv sb.data.toList)))))) 0 (tl (dg 1 (nv (seg (dg (nd sa) (bv sa.data.toList)) 0 (tl (dg (nd sa) (bv sa.data.toList))))%nv (seg (dg (nd sb) (bv sb.data.toList)) 0 (tl (dg (nd sb) (bv sb.data.toList))))))))==0) (str (enc (nv (seg (dg 1 (nv (seg (dg (nd sa) (bv sa.data.toList)) 0 (tl (dg (nd sa) (bv sa.data.toList))))%nv (seg (dg (nd sb) (bv sb.data.toList)) 0 (tl (dg (nd sb) (bv sb.data.toList)))))) 0 (tl (dg 1 (nv (seg (dg (nd sa) (bv sa.data.toList)) 0 (tl (dg (nd sa) (bv sa.data.toList))))%nv (seg (dg (nd sb) (bv sb.data.toList)) 0 (tl (dg (nd sb) (bv sb.data.toList)))))))))))+vl nb sb else 0)<0)),Value.string (str (enc (((bif vld (na&& !nv (seg (dg 1 (nv (seg (dg (nd sa) (bv sa.data.toList)) 0 (tl (dg (nd sa) (bv sa.data.toList))))%nv (seg (dg (nd sb) (bv sb.data.toList)) 0 (tl (dg (nd sb) (bv sb.data.toList)))))) 0 (tl (dg 1 (nv (seg (dg (nd sa) (bv sa.data.toList)) 0 (tl (dg (nd sa) (bv sa.data.toList))))%nv (seg (dg (nd sb) (bv sb.data.toList)) 0 (tl (dg (nd sb) (bv sb.data.toList))))))))==0) (str (enc (nv (seg (dg 1 (nv (seg (dg (nd sa) (bv sa.data.toList)) 0 (tl (dg (nd sa) (bv sa.data.toList))))%nv (seg (dg (nd sb) (bv sb.data.toList)) 0 (tl (dg (nd sb) (bv sb.data.toList)))))) 0 (tl (dg 1 (nv (seg (dg (nd sa) (bv sa.data.toList)) 0 (tl (dg (nd sa) (bv sa.data.toList))))%nv (seg (dg (nd sb) (bv sb.data.toList)) 0 (tl (dg (nd sb) (bv sb.data.toList)))))))))))&&vld nb sb then vl (na&& !nv (seg (dg 1 (nv (seg (dg (nd sa) (bv sa.data.toList)) 0 (tl (dg (nd sa) (bv sa.data.toList))))%nv (seg (dg (nd sb) (bv sb.data.toList)) 0 (tl (dg (nd sb) (bv sb.data.toList)))))) 0 (tl (dg 1 (nv (seg (dg (nd sa) (bv sa.data.toList)) 0 (tl (dg (nd sa) (bv sa.data.toList))))%nv (seg (dg (nd sb) (bv sb.data.toList)) 0 (tl (dg (nd sb) (bv sb.data.toList))))))))==0) (str (enc (nv (seg (dg 1 (nv (seg (dg (nd sa) (bv sa.data.toList)) 0 (tl (dg (nd sa) (bv sa.data.toList))))%nv (seg (dg (nd sb) (bv sb.data.toList)) 0 (tl (dg (nd sb) (bv sb.data.toList)))))) 0 (tl (dg 1 (nv (seg (dg (nd sa) (bv sa.data.toList)) 0 (tl (dg (nd sa) (bv sa.data.toList))))%nv (seg (dg (nd sb) (bv sb.data.toList)) 0 (tl (dg (nd sb) (bv sb.data.toList)))))))))))+vl nb sb else 0).natAbs:Nat):Int)))]⟩,Value.int IntKind.i64 0]⟩,[]))
 else none else none else some ((Value.tuple ⟨[Value.agg ⟨[Value.bool (!na==nb&& !nv (seg (dg (tl (dg (nd sa) (bv sa.data.toList))) (nv (seg (dg (nd sa) (bv sa.data.toList)) 0 (tl (dg (nd sa) (bv sa.data.toList))))/nv (seg (dg (nd sb) (bv sb.data.toList)) 0 (tl (dg (nd sb) (bv sb.data.toList)))))) 0 (tl (dg (tl (dg (nd sa) (bv sa.data.toList))) (nv (seg (dg (nd sa) (bv sa.data.toList)) 0 (tl (dg (nd sa) (bv sa.data.toList))))/nv (seg (dg (nd sb) (bv sb.data.toList)) 0 (tl (dg (nd sb) (bv sb.data.toList))))))))==0),Value.string (str (enc (nv (seg (dg (tl (dg (nd sa) (bv sa.data.toList))) (nv (seg (dg (nd sa) (bv sa.data.toList)) 0 (tl (dg (nd sa) (bv sa.data.toList))))/nv (seg (dg (nd sb) (bv sb.data.toList)) 0 (tl (dg (nd sb) (bv sb.data.toList)))))) 0 (tl (dg (tl (dg (nd sa) (bv sa.data.toList))) (nv (seg (dg (nd sa) (bv sa.data.toList)) 0 (tl (dg (nd sa) (bv sa.data.toList))))/nv (seg (dg (nd sb) (bv sb.data.toList)) 0 (tl (dg (nd sb) (bv sb.data.toList)))))))))))]⟩,Value.agg ⟨[Value.bool (na&& !nv (seg (dg 1 (nv (seg (dg (nd sa) (bv sa.data.toList)) 0 (tl (dg (nd sa) (bv sa.data.toList))))%nv (seg (dg (nd sb) (bv sb.data.toList)) 0 (tl (dg (nd sb) (bv sb.data.toList)))))) 0 (tl (dg 1 (nv (seg (dg (nd sa) (bv sa.data.toList)) 0 (tl (dg (nd sa) (bv sa.data.toList))))%nv (seg (dg (nd sb) (bv sb.data.toList)) 0 (tl (dg (nd sb) (bv sb.data.toList))))))))==0),Value.string (str (enc (nv (seg (dg 1 (nv (seg (dg (nd sa) (bv sa.data.toList)) 0 (tl (dg (nd sa) (bv sa.data.toList))))%nv (seg (dg (nd sb) (bv sb.data.toList)) 0 (tl (dg (nd sb) (bv sb.data.toList)))))) 0 (tl (dg 1 (nv (seg (dg (nd sa) (bv sa.data.toList)) 0 (tl (dg (nd sa) (bv sa.data.toList))))%nv (seg (dg (nd sb) (bv sb.data.toList)) 0 (tl (dg (nd sb) (bv sb.data.toList)))))))))))]⟩,Value.int IntKind.i64 0]⟩,[])) else some ((Value.tuple ⟨[Value.agg ⟨[Value.bool (!na==nb&& !nv (seg (dg (tl (dg (nd sa) (bv sa.data.toList))) (nv (seg (dg (nd sa) (bv sa.data.toList)) 0 (tl (dg (nd sa) (bv sa.data.toList))))/nv (seg (dg (nd sb) (bv sb.data.toList)) 0 (tl (dg (nd sb) (bv sb.data.toList)))))) 0 (tl (dg (tl (dg (nd sa) (bv sa.data.toList))) (nv (seg (dg (nd sa) (bv sa.data.toList)) 0 (tl (dg (nd sa) (bv sa.data.toList))))/nv (seg (dg (nd sb) (bv sb.data.toList)) 0 (tl (dg (nd sb) (bv sb.data.toList))))))))==0),Value.string (str (enc (nv (seg (dg (tl (dg (nd sa) (bv sa.data.toList))) (nv (seg (dg (nd sa) (bv sa.data.toList)) 0 (tl (dg (nd sa) (bv sa.data.toList))))/nv (seg (dg (nd sb) (bv sb.data.toList)) 0 (tl (dg (nd sb) (bv sb.data.toList)))))) 0 (tl (dg (tl (dg (nd sa) (bv sa.data.toList))) (nv (seg (dg (nd sa) (bv sa.data.toList)) 0 (tl (dg (nd sa) (bv sa.data.toList))))/nv (seg (dg (nd sb) (bv sb.data.toList)) 0 (tl (dg (nd sb) (bv sb.data.toList)))))))))))]⟩,Value.agg ⟨[Value.bool (na&& !nv (seg (dg 1 (nv (seg (dg (nd sa) (bv sa.data.toList)) 0 (tl (dg (nd sa) (bv sa.data.toList))))%nv (seg (dg (nd sb) (bv sb.data.toList)) 0 (tl (dg (nd sb) (bv sb.data.toList)))))) 0 (tl (dg 1 (nv (seg (dg (nd sa) (bv sa.data.toList)) 0 (tl (dg (nd sa) (bv sa.data.toList))))%nv (seg (dg (nd sb) (bv sb.data.toList)) 0 (tl (dg (nd sb) (bv sb.data.toList))))))))==0),Value.string (str (enc (nv (seg (dg 1 (nv (seg (dg (nd sa) (bv sa.data.toList)) 0 (tl (dg (nd sa) (bv sa.data.toList))))%nv (seg (dg (nd sb) (bv sb.data.toList)) 0 (tl (dg (nd sb) (bv sb.data.toList)))))) 0 (tl (dg 1 (nv (seg (dg (nd sa) (bv sa.data.toList)) 0 (tl (dg (nd sa) (bv sa.data.toList))))%nv (seg (dg (nd sb) (bv sb.data.toList)) 0 (tl (dg (nd sb) (bv sb.data.toList)))))))))))]⟩,Value.int IntKind.i64 0]⟩,[]))
 else none else none else none else none else none:=by kernel_rfl
def rDM1.run0:=fun na sa nb sb h0=>((rDM1.run na sa nb sb).ct h0)
def rDM1.run1:=fun na sa nb sb h0 h1=>(((rDM1.run na sa nb sb).cf h0).ct h1)
def rDM1.run2:=fun na sa nb sb h0 h1 h2=>((((rDM1.run na sa nb sb).cf h0).cf h1).ct h2)
def rDM1.run3:=fun na sa nb sb h0 h1 h2 h3 h4 h5 h6 h7 h8 h9 h10 h11=>(((((((((((((rDM1.run na sa nb sb).cf h0).cf h1).cf h2).ct h3).ct h4).ct h5).ct h6).ct h7).ct h8).ct h9).ct h10).ct h11)
def rDM1.run4:=fun na sa nb sb h0 h1 h2 h3 h4 h5 h6 h7 h8 h9=>(((((((((((rDM1.run na sa nb sb).cf h0).cf h1).cf h2).ct h3).ct h4).ct h5).ct h6).ct h7).ct h8).cf h9)
def rDM1.run5:=fun na sa nb sb h0 h1 h2 h3 h4 h5 h6 h7 h8=>((((((((((rDM1.run na sa nb sb).cf h0).cf h1).cf h2).ct h3).ct h4).ct h5).ct h6).ct h7).cf h8)
set_option maxRecDepth 100000 in
theorem rDM2.run (na:Bool) (sa:ByteArray) (nb:Bool) (sb:ByteArray):xfn Tryz.prog ⟨[(157,Valid.sp),(188,of.sp),(187,with.sp),(203,div2.sp),(169,Sub.sp),(160,Of.sp),(162,Add.sp)],[],[]⟩ [] 10 Tryz.f198 [.agg ⟨[.bool na,.string sa]⟩,.agg ⟨[.bool nb,.string sb]⟩] []=
 bif !vld na sa then some ((Value.tuple ⟨[Value.agg ⟨[Value.bool false,Value.string (⟨#[]⟩:ByteArray)]⟩,Value.agg ⟨[Value.bool false,Value.string (⟨#[]⟩:ByteArray)]⟩,Value.int IntKind.i64 1]⟩,[])) else bif !vld nb sb then some ((Value.tuple ⟨[Value.agg ⟨[Value.bool false,Value.string (⟨#[]⟩:ByteArray)]⟩,Value.agg ⟨[Value.bool false,Value.string (⟨#[]⟩:ByteArray)]⟩,Value.int IntKind.i64 1]⟩,[])) else bif sb.toList==(⟨#[]⟩:ByteArray).toList then some ((Value.tuple ⟨[Value.agg ⟨[Value.bool false,Value.string (⟨#[]⟩:ByteArray)]⟩,Value.agg ⟨[Value.bool false,Value.string (⟨#[]⟩:ByteArray)]⟩,Value.int IntKind.i64 10]⟩,[])) else bif sa.size.ble 8589934592 then bif sb.size.ble 8589934592 then bif natOk 0 (tl (dg (nd sa) (bv sa.data.toList))) (dg (nd sa) (bv sa.data.toList))&&(natOk 0 (tl (dg (nd sb) (bv sb.data.toList))) (dg (nd sb) (bv sb.data.toList))&&(Nat.ble 2 (tl (dg (nd sb) (bv sb.data.toList)))&&((tl (dg (nd sb) (bv sb.data.toList))).ble (tl (dg (nd sa) (bv sa.data.toList)))&&((tl (dg (nd sa) (bv sa.data.toList))).ble 4294967295&&(decide (0≤cmpI (tl (dg (nd sa) (bv sa.data.toList))) (tl (dg (nd sb) (bv sb.data.toList))) (nv (seg (dg (nd sa) (bv sa.data.toList)) 0 (tl (dg (nd sa) (bv sa.data.toList))))) (nv (seg (dg (nd sb) (bv sb.data.toList)) 0 (tl (dg (nd sb) (bv sb.data.toList))))))&&decide (0<(dg (nd sb) (bv sb.data.toList)).getD (0+(tl (dg (nd sb) (bv sb.data.toList))-1)) 0)))))) then bif natOk 0 (tl (dg (tl (dg (nd sa) (bv sa.data.toList))+1-tl (dg (nd sb) (bv sb.data.toList))) (nv (seg (dg (nd sa) (bv sa.data.toList)) 0 (tl (dg (nd sa) (bv sa.data.toList))))/nv (seg (dg (nd sb) (bv sb.data.toList)) 0 (tl (dg (nd sb) (bv sb.data.toList))))))) (dg (tl (dg (nd sa) (bv sa.data.toList))+1-tl (dg (nd sb) (bv sb.data.toList))) (nv (seg (dg (nd sa) (bv sa.data.toList)) 0 (tl (dg (nd sa) (bv sa.data.toList))))/nv (seg (dg (nd sb) (bv sb.data.toList)) 0 (tl (dg (nd sb) (bv sb.data.toList)))))) then bif natOk 0 (tl (dg (tl (dg (nd sa) (bv sa.data.toList))+1) (nv (seg (dg (nd sa) (bv sa.data.toList)) 0 (tl (dg (nd sa) (bv sa.data.toList))))%nv (seg (dg (nd sb) (bv sb.data.toList)) 0 (tl (dg (nd sb) (bv sb.data.toList))))))) (dg (tl (dg (nd sa) (bv sa.data.toList))+1) (nv (seg (dg (nd sa) (bv sa.data.toList)) 0 (tl (dg (nd sa) (bv sa.data.toList))))%nv (seg (dg (nd sb) (bv sb.data.toList)) 0 (tl (dg (nd sb) (bv sb.data.toList)))))) then bif !(str (enc (nv (seg (dg (tl (dg (nd sa) (bv sa.data.toList))+1) (nv (seg (dg (nd sa) (bv sa.data.toList)) 0 (tl (dg (nd sa) (bv sa.data.toList))))%nv (seg (dg (nd sb) (bv sb.data.toList)) 0 (tl (dg (nd sb) (bv sb.data.toList)))))) 0 (tl (dg (tl (dg (nd sa) (bv sa.data.toList))+1) (nv (seg (dg (nd sa) (bv sa.data.toList)) 0 (tl (dg (nd sa) (bv sa.data.toList))))%nv (seg (dg (nd sb) (bv sb.data.toList)) 0 (tl (dg (nd sb) (bv sb.data.toList))))))))))).toList==(⟨#[]⟩:ByteArray).toList then bif !na==nb then bif szOk (str (enc (nv (seg (dg (tl (dg (nd sa) (bv sa.data.toList))+1-tl (dg (nd sb) (bv sb.data.toList))) (nv (seg (dg (nd sa) (bv sa.data.toList)) 0 (tl (dg (nd sa) (bv sa.data.toList))))/nv (seg (dg (nd sb) (bv sb.data.toList)) 0 (tl (dg (nd sb) (bv sb.data.toList)))))) 0 (tl (dg (tl (dg (nd sa) (bv sa.data.toList))+1-tl (dg (nd sb) (bv sb.data.toList))) (nv (seg (dg (nd sa) (bv sa.data.toList)) 0 (tl (dg (nd sa) (bv sa.data.toList))))/nv (seg (dg (nd sb) (bv sb.data.toList)) 0 (tl (dg (nd sb) (bv sb.data.toList)))))))))))&&szOk (str (enc ((Int.natAbs 1:Nat):Int))) then
 bif szOk (str (enc (nv (seg (dg (tl (dg (nd sa) (bv sa.data.toList))+1) (nv (seg (dg (nd sa) (bv sa.data.toList)) 0 (tl (dg (nd sa) (bv sa.data.toList))))%nv (seg (dg (nd sb) (bv sb.data.toList)) 0 (tl (dg (nd sb) (bv sb.data.toList)))))) 0 (tl (dg (tl (dg (nd sa) (bv sa.data.toList))+1) (nv (seg (dg (nd sa) (bv sa.data.toList)) 0 (tl (dg (nd sa) (bv sa.data.toList))))%nv (seg (dg (nd sb) (bv sb.data.toList)) 0 (tl (dg (nd sb) (bv sb.data.toList)))))))))))&&szOk sb then some ((Value.tuple ⟨[Value.agg ⟨[Value.bool (decide ((bif vld (!na==nb&& !nv (seg (dg (tl (dg (nd sa) (bv sa.data.toList))+1-tl (dg (nd sb) (bv sb.data.toList))) (nv (seg (dg (nd sa) (bv sa.data.toList)) 0 (tl (dg (nd sa) (bv sa.data.toList))))/nv (seg (dg (nd sb) (bv sb.data.toList)) 0 (tl (dg (nd sb) (bv sb.data.toList)))))) 0 (tl (dg (tl (dg (nd sa) (bv sa.data.toList))+1-tl (dg (nd sb) (bv sb.data.toList))) (nv (seg (dg (nd sa) (bv sa.data.toList)) 0 (tl (dg (nd sa) (bv sa.data.toList))))/nv (seg (dg (nd sb) (bv sb.data.toList)) 0 (tl (dg (nd sb) (bv sb.data.toList))))))))==0) (str (enc (nv (seg (dg (tl (dg (nd sa) (bv sa.data.toList))+1-tl (dg (nd sb) (bv sb.data.toList))) (nv (seg (dg (nd sa) (bv sa.data.toList)) 0 (tl (dg (nd sa) (bv sa.data.toList))))/nv (seg (dg (nd sb) (bv sb.data.toList)) 0 (tl (dg (nd sb) (bv sb.data.toList)))))) 0 (tl (dg (tl (dg (nd sa) (bv sa.data.toList))+1-tl (dg (nd sb) (bv sb.data.toList))) (nv (seg (dg (nd sa) (bv sa.data.toList)) 0 (tl (dg (nd sa) (bv sa.data.toList))))/nv (seg (dg (nd sb) (bv sb.data.toList)) 0 (tl (dg (nd sb) (bv sb.data.toList)))))))))))&&vld (decide ((1:Int)<0)) (str (enc ((Int.natAbs 1:Nat):Int))) then vl (!na==nb&& !nv (seg (dg (tl (dg (nd sa) (bv sa.data.toList))+1-tl (dg (nd sb) (bv sb.data.toList))) (nv (seg (dg (nd sa) (bv sa.data.toList)) 0 (tl (dg (nd sa) (bv sa.data.toList))))/nv (seg (dg (nd sb) (bv sb.data.toList)) 0 (tl (dg (nd sb) (bv sb.data.toList)))))) 0 (tl (dg (tl (dg (nd sa) (bv sa.data.toList))+1-tl (dg (nd sb) (bv sb.data.toList))) (nv (seg (dg (nd sa) (bv sa.data.toList)) 0 (tl (dg (nd sa) (bv sa.data.toList))))/nv (seg (dg (nd sb) (bv sb.data.toList)) 0 (tl (dg (nd sb) (bv sb.data.toList))))))))==0) (str (enc (nv (seg (dg (tl (dg (nd sa) (bv sa.data.toList))+1-tl (dg (nd sb) (bv sb.data.toList))) (nv (seg (dg (nd sa) (bv sa.data.toList)) 0 (tl (dg (nd sa) (bv sa.data.toList))))/nv (seg (dg (nd sb) (bv sb.data.toList)) 0 (tl (dg (nd sb) (bv sb.data.toList)))))) 0 (tl (dg (tl (dg (nd sa) (bv sa.data.toList))+1-tl (dg (nd sb) (bv sb.data.toList))) (nv (seg (dg (nd sa) (bv sa.data.toList)) 0 (tl (dg (nd sa) (bv sa.data.toList))))/nv (seg (dg (nd sb) (bv sb.data.toList)) 0 (tl (dg (nd sb) (bv sb.data.toList)))))))))))-vl (decide ((1:Int)<0)) (str (enc ((Int.natAbs 1:Nat):Int))) else 0)<0)),Value.string (str (enc (((bif vld (!na==nb&& !nv (seg (dg (tl (dg (nd sa) (bv sa.data.toList))+1-tl (dg (nd sb) (bv sb.data.toList))) (nv (seg (dg (nd sa) (bv sa.data.toList)) 0 (tl (dg (nd sa) (bv sa.data.toList))))/nv (seg (dg (nd sb) (bv sb.data.toList)) 0 (tl (dg (nd sb) (bv sb.data.toList)))))) 0 (tl (dg (tl (dg (nd sa) (bv sa.data.toList))+1-tl (dg (nd sb) (bv sb.data.toList))) (nv (seg (dg (nd sa) (bv sa.data.toList)) 0 (tl (dg (nd sa) (bv sa.data.toList))))/nv (seg (dg (nd sb) (bv sb.data.toList)) 0 (tl (dg (nd sb) (bv sb.data.toList))))))))==0) (str (enc (nv (seg (dg (tl (dg (nd sa) (bv sa.data.toList))+1-tl (dg (nd sb) (bv sb.data.toList))) (nv (seg (dg (nd sa) (bv sa.data.toList)) 0 (tl (dg (nd sa) (bv sa.data.toList))))/nv (seg (dg (nd sb) (bv sb.data.toList)) 0 (tl (dg (nd sb) (bv sb.data.toList)))))) 0 (tl (dg (tl (dg (nd sa) (bv sa.data.toList))+1-tl (dg (nd sb) (bv sb.data.toList))) (nv (seg (dg (nd sa) (bv sa.data.toList)) 0 (tl (dg (nd sa) (bv sa.data.toList))))/nv (seg (dg (nd sb) (bv sb.data.toList)) 0 (tl (dg (nd sb) (bv sb.data.toList)))))))))))&&vld (decide ((1:Int)<0)) (str (enc ((Int.natAbs 1:Nat):Int))) then vl (!na==nb&& !nv (seg (dg (tl (dg (nd sa) (bv sa.data.toList))+1-tl (dg (nd sb) (bv sb.data.toList))) (nv (seg (dg (nd sa) (bv sa.data.toList)) 0 (tl (dg (nd sa) (bv sa.data.toList))))/nv (seg (dg (nd sb) (bv sb.data.toList)) 0 (tl (dg (nd sb) (bv sb.data.toList)))))) 0 (tl (dg (tl (dg (nd sa) (bv sa.data.toList))+1-tl (dg (nd sb) (bv sb.data.toList))) (nv (seg (dg (nd sa) (bv sa.data.toList)) 0 (tl (dg (nd sa) (bv sa.data.toList))))/nv (seg (dg (nd sb) (bv sb.data.toList)) 0 (tl (dg (nd sb) (bv sb.data.toList))))))))==0) (str (enc (nv (seg (dg (tl (dg (nd sa) (bv sa.data.toList))+1-tl (dg (nd sb) (bv sb.data.toList))) (nv (seg (dg (nd sa) (bv sa.data.toList)) 0 (tl (dg (nd sa) (bv sa.data.toList))))/nv (seg (dg (nd sb) (bv sb.data.toList)) 0 (tl (dg (nd sb) (bv sb.data.toList)))))) 0 (tl (dg (tl (dg (nd sa) (bv sa.data.toList))+1-tl (dg (nd sb) (bv sb.data.toList))) (nv (seg (dg (nd sa) (bv sa.data.toList)) 0 (tl (dg (nd sa) (bv sa.data.toList))))/nv (seg (dg (nd sb) (bv sb.data.toList)) 0 (tl (dg (nd sb) (bv sb.data.toList)))))))))))-vl (decide ((1:Int)<0)) (str (enc ((Int.natAbs 1:Nat):Int))) else 0).natAbs:Nat):Int)))]⟩,Value.agg ⟨[Value.bool (decide ((bif vld (na&& !nv (seg (dg (tl (dg (nd sa) (bv sa.data.toList))+1) (nv (seg (dg (nd sa) (bv sa.data.toList)) 0 (tl (dg (nd sa) (bv sa.data.toList))))%nv (seg (dg (nd sb) (bv sb.data.toList)) 0 (tl (dg (nd sb) (bv sb.data.toList)))))) 0 (tl (dg (tl (dg (nd sa) (bv sa.data.toList))+1) (nv (seg (dg (nd sa) (bv sa.data.toList)) 0 (tl (dg (nd sa) (bv sa.data.toList))))%nv (seg (dg (nd sb) (bv sb.data.toList)) 0 (tl (dg (nd sb) (bv sb.data.toList))))))))==0) (str (enc (nv (seg (dg (tl (dg (nd sa) (bv sa.data.toList))+1) (nv (seg (dg (nd sa) (bv sa.data.toList)) 0 (tl (dg (nd sa) (bv sa.data.toList))))%nv (seg (dg (nd sb) (bv sb.data.toList)) 0 (tl (dg (nd sb) (bv sb.data.toList)))))) 0 (tl (dg (tl (dg (nd sa) (bv sa.data.toList))+1) (nv (seg (dg (nd sa) (bv sa.data.toList)) 0 (tl (dg (nd sa) (bv sa.data.toList))))%nv (seg (dg (nd sb) (bv sb.data.toList)) 0 (tl (dg (nd sb) (bv sb.data.toList)))))))))))&&vld nb sb then vl (na&& !nv (seg (dg (tl (dg (nd sa) (bv sa.data.toList))+1) (nv (seg (dg (nd sa) (bv sa.data.toList)) 0 (tl (dg (nd sa) (bv sa.data.toList))))%nv (seg (dg (nd sb) (bv sb.data.toList)) 0 (tl (dg (nd sb) (bv sb.data.toList)))))) 0 (tl (dg (tl (dg (nd sa) (bv sa.data.toList))+1) (nv (seg (dg (nd sa) (bv sa.data.toList)) 0 (tl (dg (nd sa) (bv sa.data.toList))))%nv (seg (dg (nd sb) (bv sb.data.toList)) 0 (tl (dg (nd sb) (bv sb.data.toList))))))))==0) (str (enc (nv (seg (dg (tl (dg (nd sa) (bv sa.data.toList))+1) (nv (seg (dg (nd sa) (bv sa.data.toList)) 0 (tl (dg (nd sa) (bv sa.data.toList))))%nv (seg (dg (nd sb) (bv sb.data.toList)) 0 (tl (dg (nd sb) (bv sb.data.toList)))))) 0 (tl (dg (tl (dg (nd sa) (bv sa.data.toList))+1) (nv (seg (dg (nd sa) (bv sa.data.toList)) 0 (tl (dg (nd sa) (bv sa.data.toList))))%nv (seg (dg (nd sb) (bv sb.data.toList)) 0 (tl (dg (nd sb) (bv sb.data.toList)))))))))))+vl nb sb else 0)<0)),Value.string (str (enc (((bif vld (na&& !nv (seg (dg (tl (dg (nd sa) (bv sa.data.toList))+1) (nv (seg (dg (nd sa) (bv sa.data.toList)) 0 (tl (dg (nd sa) (bv sa.data.toList))))%nv (seg (dg (nd sb) (bv sb.data.toList)) 0 (tl (dg (nd sb) (bv sb.data.toList)))))) 0 (tl (dg (tl (dg (nd sa) (bv sa.data.toList))+1) (nv (seg (dg (nd sa) (bv sa.data.toList)) 0 (tl (dg (nd sa) (bv sa.data.toList))))%nv (seg (dg (nd sb) (bv sb.data.toList)) 0 (tl (dg (nd sb) (bv sb.data.toList))))))))==0) (str (enc (nv (seg (dg (tl (dg (nd sa) (bv sa.data.toList))+1) (nv (seg (dg (nd sa) (bv sa.data.toList)) 0 (tl (dg (nd sa) (bv sa.data.toList))))%nv (seg (dg (nd sb) (bv sb.data.toList)) 0 (tl (dg (nd sb) (bv sb.data.toList)))))) 0 (tl (dg (tl (dg (nd sa) (bv sa.data.toList))+1) (nv (seg (dg (nd sa) (bv sa.data.toList)) 0 (tl (dg (nd sa) (bv sa.data.toList))))%nv (seg (dg (nd sb) (bv sb.data.toList)) 0 (tl (dg (nd sb) (bv sb.data.toList)))))))))))&&vld nb sb then vl (na&& !nv (seg (dg (tl (dg (nd sa) (bv sa.data.toList))+1) (nv (seg (dg (nd sa) (bv sa.data.toList)) 0 (tl (dg (nd sa) (bv sa.data.toList))))%nv (seg (dg (nd sb) (bv sb.data.toList)) 0 (tl (dg (nd sb) (bv sb.data.toList)))))) 0 (tl (dg (tl (dg (nd sa) (bv sa.data.toList))+1) (nv (seg (dg (nd sa) (bv sa.data.toList)) 0 (tl (dg (nd sa) (bv sa.data.toList))))%nv (seg (dg (nd sb) (bv sb.data.toList)) 0 (tl (dg (nd sb) (bv sb.data.toList))))))))==0) (str (enc (nv (seg (dg (tl (dg (nd sa) (bv sa.data.toList))+1) (nv (seg (dg (nd sa) (bv sa.data.toList)) 0 (tl (dg (nd sa) (bv sa.data.toList))))%nv (seg (dg (nd sb) (bv sb.data.toList)) 0 (tl (dg (nd sb) (bv sb.data.toList)))))) 0 (tl (dg (tl (dg (nd sa) (bv sa.data.toList))+1) (nv (seg (dg (nd sa) (bv sa.data.toList)) 0 (tl (dg (nd sa) (bv sa.data.toList))))%nv (seg (dg (nd sb) (bv sb.data.toList)) 0 (tl (dg (nd sb) (bv sb.data.toList)))))))))))+vl nb sb else 0).natAbs:Nat):Int)))]⟩,Value.int IntKind.i64 0]⟩,[]))
 else none else none else some ((Value.tuple ⟨[Value.agg ⟨[Value.bool (!na==nb&& !nv (seg (dg (tl (dg (nd sa) (bv sa.data.toList))+1-tl (dg (nd sb) (bv sb.data.toList))) (nv (seg (dg (nd sa) (bv sa.data.toList)) 0 (tl (dg (nd sa) (bv sa.data.toList))))/nv (seg (dg (nd sb) (bv sb.data.toList)) 0 (tl (dg (nd sb) (bv sb.data.toList)))))) 0 (tl (dg (tl (dg (nd sa) (bv sa.data.toList))+1-tl (dg (nd sb) (bv sb.data.toList))) (nv (seg (dg (nd sa) (bv sa.data.toList)) 0 (tl (dg (nd sa) (bv sa.data.toList))))/nv (seg (dg (nd sb) (bv sb.data.toList)) 0 (tl (dg (nd sb) (bv sb.data.toList))))))))==0),Value.string (str (enc (nv (seg (dg (tl (dg (nd sa) (bv sa.data.toList))+1-tl (dg (nd sb) (bv sb.data.toList))) (nv (seg (dg (nd sa) (bv sa.data.toList)) 0 (tl (dg (nd sa) (bv sa.data.toList))))/nv (seg (dg (nd sb) (bv sb.data.toList)) 0 (tl (dg (nd sb) (bv sb.data.toList)))))) 0 (tl (dg (tl (dg (nd sa) (bv sa.data.toList))+1-tl (dg (nd sb) (bv sb.data.toList))) (nv (seg (dg (nd sa) (bv sa.data.toList)) 0 (tl (dg (nd sa) (bv sa.data.toList))))/nv (seg (dg (nd sb) (bv sb.data.toList)) 0 (tl (dg (nd sb) (bv sb.data.toList)))))))))))]⟩,Value.agg ⟨[Value.bool (na&& !nv (seg (dg (tl (dg (nd sa) (bv sa.data.toList))+1) (nv (seg (dg (nd sa) (bv sa.data.toList)) 0 (tl (dg (nd sa) (bv sa.data.toList))))%nv (seg (dg (nd sb) (bv sb.data.toList)) 0 (tl (dg (nd sb) (bv sb.data.toList)))))) 0 (tl (dg (tl (dg (nd sa) (bv sa.data.toList))+1) (nv (seg (dg (nd sa) (bv sa.data.toList)) 0 (tl (dg (nd sa) (bv sa.data.toList))))%nv (seg (dg (nd sb) (bv sb.data.toList)) 0 (tl (dg (nd sb) (bv sb.data.toList))))))))==0),Value.string (str (enc (nv (seg (dg (tl (dg (nd sa) (bv sa.data.toList))+1) (nv (seg (dg (nd sa) (bv sa.data.toList)) 0 (tl (dg (nd sa) (bv sa.data.toList))))%nv (seg (dg (nd sb) (bv sb.data.toList)) 0 (tl (dg (nd sb) (bv sb.data.toList)))))) 0 (tl (dg (tl (dg (nd sa) (bv sa.data.toList))+1) (nv (seg (dg (nd sa) (bv sa.data.toList)) 0 (tl (dg (nd sa) (bv sa.data.toList))))%nv (seg (dg (nd sb) (bv sb.data.toList)) 0 (tl (dg (nd sb) (bv sb.data.toList)))))))))))]⟩,Value.int IntKind.i64 0]⟩,[])) else some ((Value.tuple ⟨[Value.agg ⟨[Value.bool (!na==nb&& !nv (seg (dg (tl (dg (nd sa) (bv sa.data.toList))+1-tl (dg (nd sb) (bv sb.data.toList))) (nv (seg (dg (nd sa) (bv sa.data.toList)) 0 (tl (dg (nd sa) (bv sa.data.toList))))/nv (seg (dg (nd sb) (bv sb.data.toList)) 0 (tl (dg (nd sb) (bv sb.data.toList)))))) 0 (tl (dg (tl (dg (nd sa) (bv sa.data.toList))+1-tl (dg (nd sb) (bv sb.data.toList))) (nv (seg (dg (nd sa) (bv sa.data.toList)) 0 (tl (dg (nd sa) (bv sa.data.toList))))/nv (seg (dg (nd sb) (bv sb.data.toList)) 0 (tl (dg (nd sb) (bv sb.data.toList))))))))==0),Value.string (str (enc (nv (seg (dg (tl (dg (nd sa) (bv sa.data.toList))+1-tl (dg (nd sb) (bv sb.data.toList))) (nv (seg (dg (nd sa) (bv sa.data.toList)) 0 (tl (dg (nd sa) (bv sa.data.toList))))/nv (seg (dg (nd sb) (bv sb.data.toList)) 0 (tl (dg (nd sb) (bv sb.data.toList)))))) 0 (tl (dg (tl (dg (nd sa) (bv sa.data.toList))+1-tl (dg (nd sb) (bv sb.data.toList))) (nv (seg (dg (nd sa) (bv sa.data.toList)) 0 (tl (dg (nd sa) (bv sa.data.toList))))/nv (seg (dg (nd sb) (bv sb.data.toList)) 0 (tl (dg (nd sb) (bv sb.data.toList)))))))))))]⟩,Value.agg ⟨[Value.bool (na&& !nv (seg (dg (tl (dg (nd sa) (bv sa.data.toList))+1) (nv (seg (dg (nd sa) (bv sa.data.toList)) 0 (tl (dg (nd sa) (bv sa.data.toList))))%nv (seg (dg (nd sb) (bv sb.data.toList)) 0 (tl (dg (nd sb) (bv sb.data.toList)))))) 0 (tl (dg (tl (dg (nd sa) (bv sa.data.toList))+1) (nv (seg (dg (nd sa) (bv sa.data.toList)) 0 (tl (dg (nd sa) (bv sa.data.toList))))%nv (seg (dg (nd sb) (bv sb.data.toList)) 0 (tl (dg (nd sb) (bv sb.data.toList))))))))==0),Value.string (str (enc (nv (seg (dg (tl (dg (nd sa) (bv sa.data.toList))+1) (nv (seg (dg (nd sa) (bv sa.data.toList)) 0 (tl (dg (nd sa) (bv sa.data.toList))))%nv (seg (dg (nd sb) (bv sb.data.toList)) 0 (tl (dg (nd sb) (bv sb.data.toList)))))) 0 (tl (dg (tl (dg (nd sa) (bv sa.data.toList))+1) (nv (seg (dg (nd sa) (bv sa.data.toList)) 0 (tl (dg (nd sa) (bv sa.data.toList))))%nv (seg (dg (nd sb) (bv sb.data.toList)) 0 (tl (dg (nd sb) (bv sb.data.toList)))))))))))]⟩,Value.int IntKind.i64 0]⟩,[]))
 else none else none else none else none else none:=by kernel_rfl
def rDM2.run0:=fun na sa nb sb h0=>((rDM2.run na sa nb sb).ct h0)
def rDM2.run1:=fun na sa nb sb h0 h1=>(((rDM2.run na sa nb sb).cf h0).ct h1)
def rDM2.run2:=fun na sa nb sb h0 h1 h2=>((((rDM2.run na sa nb sb).cf h0).cf h1).ct h2)
def rDM2.run3:=fun na sa nb sb h0 h1 h2 h3 h4 h5 h6 h7 h8 h9 h10 h11=>(((((((((((((rDM2.run na sa nb sb).cf h0).cf h1).cf h2).ct h3).ct h4).ct h5).ct h6).ct h7).ct h8).ct h9).ct h10).ct h11)
def rDM2.run4:=fun na sa nb sb h0 h1 h2 h3 h4 h5 h6 h7 h8 h9=>(((((((((((rDM2.run na sa nb sb).cf h0).cf h1).cf h2).ct h3).ct h4).ct h5).ct h6).ct h7).ct h8).cf h9)
def rDM2.run5:=fun na sa nb sb h0 h1 h2 h3 h4 h5 h6 h7 h8=>((((((((((rDM2.run na sa nb sb).cf h0).cf h1).cf h2).ct h3).ct h4).ct h5).ct h6).ct h7).cf h8)
theorem enc_small {v:Int} {s:ByteArray} (h0:0≤v) (h:v≤bv s.data.toList) (hs:s.size≤4294967296):szOk (str (enc v))=true:=by
  have h1:=bv_lt s.data.toList
  have h2:s.data.toList.length=s.size:=rfl
  rw [h2] at h1
  have:=enc_length h0 (Int.lt_of_le_of_lt h h1)
  simp only [szOk,Nat.ble_eq,str_size]; omega
def dmV (na:Bool) (sa:ByteArray) (nb:Bool) (sb:ByteArray):Value:=
  bif vld na sa&&vld nb sb then (bif bv sb.data.toList==0 then .tuple ⟨[iI 0,iI 0,.int .i64 10]⟩ else .tuple ⟨[iI (fq (vl na sa) (vl nb sb)),iI (fr (vl na sa) (vl nb sb)),.int .i64 0]⟩) else .tuple ⟨[iI 0,iI 0,.int .i64 1]⟩
def dmC (j:Nat) (sa sb:ByteArray):Bool:=match j with
  |0=>decide (bv sa.data.toList<bv sb.data.toList)
  |1=>decide (bv sb.data.toList≤bv sa.data.toList)&&Nat.beq (tl (dg (nd sb) (bv sb.data.toList))) 1
  |_=>decide (bv sb.data.toList≤bv sa.data.toList)&&Nat.ble 2 (tl (dg (nd sb) (bv sb.data.toList)))
def dmS (j:Nat):HSpec
  |[.agg ⟨[.bool na,.string sa]⟩,.agg ⟨[.bool nb,.string sb]⟩],[]=>some (szM sa&&(szM sb&&(!(vld na sa&&vld nb sb&& !(bv sb.data.toList==0))||dmC j sa sb)),dmV na sa nb sb,[])
  |_,_=>none
def DivMod.sp:HSpec
  |[.agg ⟨[.bool na,.string sa]⟩,.agg ⟨[.bool nb,.string sb]⟩],[]=>some (szM sa&&szM sb,dmV na sa nb sb,[])
  |_,_=>none
theorem dm_eq {na nb:Bool} {sa sb:ByteArray} {A B:Int} (hA:bv sa.data.toList=A) (hB:bv sb.data.toList=B) (a0:0≤A) (b0:0<B) (va:vld na sa=true) (vb:vld nb sb=true):
    dmV na sa nb sb= .tuple ⟨[iI (bif na==nb then A/B else (if A%B=0 then -(A/B) else -(A/B)-1)),iI (bif na==nb then (bif na then -(A%B) else A%B) else (if A%B=0 then 0 else (bif na then -(A%B) else A%B)+(bif nb then -B else B))),.int .i64 0]⟩:=by
  unfold dmV
  have hz:(bv sb.data.toList==0)=false:=by rw [beq_eq_false_iff_ne]; omega
  rw [va,vb,Bool.and_self,cond_true,hz,cond_false]
  unfold vl
  rw [hA,hB,fq_signed na nb a0 b0,fr_signed na nb a0 b0]
theorem DivMod0.ok:SOK Tryz.prog 198 (dmS 0):=by
  refine sok_of (E:=⟨[(157,Valid.sp),(188,of.sp),(187,with.sp),(203,div0.sp),(169,Sub.sp),(160,Of.sp),(162,Add.sp)],[],[]⟩) (L:=[]) ⟨specs_cons Valid.ok (specs_cons of.ok (specs_cons with.ok (specs_cons div0.ok (specs_cons Sub.ok (specs_cons Of.ok (specs_cons Add.ok specs_nil)))))),inl_nil,mixed_ok,lps_nil⟩ 10 Tryz.func198 (by decide) rfl no_loops fun vs bl v bl' h=> ?_
  unfold dmS at h
  split at h
  · rename_i na sa nb sb
    simp only [Option.some.injEq,Prod.mk.injEq,Bool.and_eq_true] at h
    obtain ⟨⟨hsa,hsb,hcc⟩,rfl,rfl⟩:=h
    refine ⟨?_,by simp [okV],by unfold dmV; cases vld na sa&&vld nb sb<;>simp only [cond_true,cond_false]<;>(try cases (bv sb.data.toList==0))<;>exact clo_spec 8 _ rfl,told_blk rfl⟩
    cases va:vld na sa with
    |false=>exact (rDM0.run0 na sa nb sb (not_false' va)).trans (by unfold dmV; rw [va,Bool.false_and,cond_false]; rw [iI_zero])
    |true=>
    cases vb:vld nb sb with
    |false=>exact (rDM0.run1 na sa nb sb (not_true' va) (not_false' vb)).trans (by unfold dmV; rw [va,vb,Bool.and_false,cond_false]; rw [iI_zero])
    |true=>
    have hsn:(sb.toList==(⟨#[]⟩:ByteArray).toList)=(bv sb.data.toList==0):=by
      have h1:=str_nil sb.data.toList
      have h2:=enc_empty (bv_nonneg sb.data.toList)
      rw [enc_bv (tz_vld vb)] at h2
      rw [←h2]; exact h1
    cases hz:(bv sb.data.toList==0) with
    |true=>exact (rDM0.run2 na sa nb sb (not_true' va) (not_true' vb) (hsn.trans hz)).trans (by unfold dmV; rw [va,vb,hz,Bool.and_self,cond_true,cond_true]; rw [iI_zero])
    |false=>
    have hc:dmC 0 sa sb=true:=by simpa [va,vb,hz] using hcc
    have b0:0<bv sb.data.toList:=by
      have:=bv_nonneg sb.data.toList
      have:bv sb.data.toList≠0:=by simpa using hz
      omega
    have a0:=bv_nonneg sa.data.toList
    have a1:=bv_lt_nd sa
    have b1:=bv_lt_nd sb
    have hsa':=Nat.le_of_ble_eq_true hsa
    have hsb':=Nat.le_of_ble_eq_true hsb
    have na_:nd sa≤1073741825:=by unfold nd; omega
    have nb_:nd sb≤1073741825:=by unfold nd; omega
    generalize hA:bv sa.data.toList=A at*
    generalize hB:bv sb.data.toList=B at*
    have oA:=okc (n:=nd sa) A (by omega)
    have oB:=okc (n:=nd sb) B (by omega)
    have ta:=tl_le (dg (nd sa) A)
    have tb:=tl_le (dg (nd sb) B)
    rw [dg_length] at ta tb
    have q0:0≤A/B:=Int.ediv_nonneg a0 (Int.le_of_lt b0)
    have r0:=Int.emod_nonneg A (show B≠0 by omega)
    have hlt:A<B:=by simpa [dmC,hA,hB] using hc
    have eQ:A/B=0:=Int.ediv_eq_zero_of_lt a0 hlt
    have eR:A%B=A:=Int.emod_eq_of_lt a0 hlt
    have hcm:cmpI (tl (dg (nd sa) A)) (tl (dg (nd sb) B)) A B<0:=by
      have:=cmpI_ge a0 a1 (Int.le_of_lt b0) b1
      omega
    have n3:=rDM0.run3 na sa nb sb (not_true' va) (not_true' vb) (hsn.trans hz)
    have n4:=rDM0.run4 na sa nb sb (not_true' va) (not_true' vb) (hsn.trans hz)
    have n5:=rDM0.run5 na sa nb sb (not_true' va) (not_true' vb) (hsn.trans hz)
    simp only [hA,hB,nvc a0 a1,nvc (Int.le_of_lt b0) b1,eQ,eR] at n3 n4 n5
    have y1:=Nat.ble_eq_true_of_le (show sa.size≤8589934592 by omega)
    have y2:=Nat.ble_eq_true_of_le (show sb.size≤8589934592 by omega)
    replace n3:=n3 y1 y2 (by rw [oA,oB,dtrue hcm]; rfl) oA
    replace n4:=n4 y1 y2 (by rw [oA,oB,dtrue hcm]; rfl) oA
    replace n5:=n5 y1 y2 (by rw [oA,oB,dtrue hcm]; rfl) oA
    simp only [str_enc_nil a0,vld_iv (!(na==nb)) (Int.le_refl 0),vl_iv (!(na==nb)) (Int.le_refl 0),vld_iv na a0,vl_iv na a0,vld_iI,vl_iI,vb,Bool.and_self,cond_true] at n3 n4 n5
    rw [dm_eq hA hB a0 b0 va vb]
    have vQ:(Value.agg ⟨[.bool (!(na==nb)&& !((0:Int)==0)),.string (str (enc (0:Int)))]⟩)=iI (bif !(na==nb) then -(0:Int) else (0:Int)):=iv_iI (!(na==nb)) (Int.le_refl 0)
    have vR:(Value.agg ⟨[.bool (na&& !(A==0)),.string (str (enc A))]⟩)=iI (bif na then -A else A):=iv_iI na a0
    have hvl:vl nb sb=bif nb then -B else B:=by unfold vl; rw [hB]
    by_cases hR:A%B=0
    · have hRb:(A==0)=true:=by rw [beq_iff_eq]; omega
      refine (n5 (by rw [hRb]; rfl)).trans ?_
      rw [vQ,vR]
      have eR0:A=0:=by omega
      cases hN:na==nb
      · rw [hN] at*
        simp only [cond_false,cond_true,Bool.not_false,if_pos hR]
        rw [eR0,show (bif na then -(0:Int) else 0)=0 by cases na<;>rfl] ; rw [Int.zero_ediv]
      · rw [hN] at*
        simp only [cond_false,cond_true,Bool.not_true] ; rw [eQ,eR]
    · have hRb:(A==0)=false:=by rw [beq_eq_false_iff_ne]; omega
      cases hN:na==nb
      · refine (n3 (by rw [hRb]; rfl) (by rw [hN]; rfl) (by rw [enc_small (s:=sa) a0 (by omega) (by omega),szM_ok hsb]; rfl)).trans ?_
        rw [hvl]
        show some (Value.tuple ⟨[iI ((bif !(na==nb) then -(0:Int) else (0:Int))-1),iI ((bif na then -A else A)+(bif nb then -B else B)),_]⟩,_)=_
        rw [hN]
        simp only [cond_false,cond_true,Bool.not_false,if_neg hR] ; rw [eQ,eR]
      · refine (n4 (by rw [hRb]; rfl) (by rw [hN]; rfl)).trans ?_
        rw [vQ,vR]
        rw [hN]
        simp only [cond_false,cond_true,Bool.not_true] ; rw [eQ,eR]
  · cases h
theorem DivMod1.ok:SOK Tryz.prog 198 (dmS 1):=by
  refine sok_of (E:=⟨[(157,Valid.sp),(188,of.sp),(187,with.sp),(203,div1.sp),(169,Sub.sp),(160,Of.sp),(162,Add.sp)],[],[]⟩) (L:=[]) ⟨specs_cons Valid.ok (specs_cons of.ok (specs_cons with.ok (specs_cons div1.ok (specs_cons Sub.ok (specs_cons Of.ok (specs_cons Add.ok specs_nil)))))),inl_nil,mixed_ok,lps_nil⟩ 10 Tryz.func198 (by decide) rfl no_loops fun vs bl v bl' h=> ?_
  unfold dmS at h
  split at h
  · rename_i na sa nb sb
    simp only [Option.some.injEq,Prod.mk.injEq,Bool.and_eq_true] at h
    obtain ⟨⟨hsa,hsb,hcc⟩,rfl,rfl⟩:=h
    refine ⟨?_,by simp [okV],by unfold dmV; cases vld na sa&&vld nb sb<;>simp only [cond_true,cond_false]<;>(try cases (bv sb.data.toList==0))<;>exact clo_spec 8 _ rfl,told_blk rfl⟩
    cases va:vld na sa with
    |false=>exact (rDM1.run0 na sa nb sb (not_false' va)).trans (by unfold dmV; rw [va,Bool.false_and,cond_false]; rw [iI_zero])
    |true=>
    cases vb:vld nb sb with
    |false=>exact (rDM1.run1 na sa nb sb (not_true' va) (not_false' vb)).trans (by unfold dmV; rw [va,vb,Bool.and_false,cond_false]; rw [iI_zero])
    |true=>
    have hsn:(sb.toList==(⟨#[]⟩:ByteArray).toList)=(bv sb.data.toList==0):=by
      have h1:=str_nil sb.data.toList
      have h2:=enc_empty (bv_nonneg sb.data.toList)
      rw [enc_bv (tz_vld vb)] at h2
      rw [←h2]; exact h1
    cases hz:(bv sb.data.toList==0) with
    |true=>exact (rDM1.run2 na sa nb sb (not_true' va) (not_true' vb) (hsn.trans hz)).trans (by unfold dmV; rw [va,vb,hz,Bool.and_self,cond_true,cond_true]; rw [iI_zero])
    |false=>
    have hc:dmC 1 sa sb=true:=by simpa [va,vb,hz] using hcc
    have b0:0<bv sb.data.toList:=by
      have:=bv_nonneg sb.data.toList
      have:bv sb.data.toList≠0:=by simpa using hz
      omega
    have a0:=bv_nonneg sa.data.toList
    have a1:=bv_lt_nd sa
    have b1:=bv_lt_nd sb
    have hsa':=Nat.le_of_ble_eq_true hsa
    have hsb':=Nat.le_of_ble_eq_true hsb
    have na_:nd sa≤1073741825:=by unfold nd; omega
    have nb_:nd sb≤1073741825:=by unfold nd; omega
    generalize hA:bv sa.data.toList=A at*
    generalize hB:bv sb.data.toList=B at*
    have oA:=okc (n:=nd sa) A (by omega)
    have oB:=okc (n:=nd sb) B (by omega)
    have ta:=tl_le (dg (nd sa) A)
    have tb:=tl_le (dg (nd sb) B)
    rw [dg_length] at ta tb
    have q0:0≤A/B:=Int.ediv_nonneg a0 (Int.le_of_lt b0)
    have r0:=Int.emod_nonneg A (show B≠0 by omega)
    obtain ⟨hle,h1B⟩:B≤A∧tl (dg (nd sb) B)=1:=by simpa [dmC,hA,hB] using hc
    have hBs:=lt_tl (Int.le_of_lt b0) b1
    have q1:A/B<pw (tl (dg (nd sa) A)):=Int.lt_of_le_of_lt (Int.ediv_le_self B a0) (lt_tl a0 a1)
    have r1:A%B<pw 1:=by rw [h1B] at hBs; have:=Int.emod_lt_of_pos A b0; omega
    have hcm:0≤cmpI (tl (dg (nd sa) A)) (tl (dg (nd sb) B)) A B:=(cmpI_ge a0 a1 (Int.le_of_lt b0) b1).2 hle
    have n3:=rDM1.run3 na sa nb sb (not_true' va) (not_true' vb) (hsn.trans hz)
    have n4:=rDM1.run4 na sa nb sb (not_true' va) (not_true' vb) (hsn.trans hz)
    have n5:=rDM1.run5 na sa nb sb (not_true' va) (not_true' vb) (hsn.trans hz)
    simp only [hA,hB,nvc a0 a1,nvc (Int.le_of_lt b0) b1,nvc q0 q1,nvc r0 r1] at n3 n4 n5
    have y1:=Nat.ble_eq_true_of_le (show sa.size≤8589934592 by omega)
    have y2:=Nat.ble_eq_true_of_le (show sb.size≤8589934592 by omega)
    replace n3:=n3 y1 y2 (by rw [oA,oB,h1B,←h1B,dtrue hcm,dtrue b0,h1B]; rfl) (okc _ (by omega)) (okc _ (by omega))
    replace n4:=n4 y1 y2 (by rw [oA,oB,h1B,←h1B,dtrue hcm,dtrue b0,h1B]; rfl) (okc _ (by omega)) (okc _ (by omega))
    replace n5:=n5 y1 y2 (by rw [oA,oB,h1B,←h1B,dtrue hcm,dtrue b0,h1B]; rfl) (okc _ (by omega)) (okc _ (by omega))
    simp only [str_enc_nil r0,vld_iv (!(na==nb)) (q0),vl_iv (!(na==nb)) (q0),vld_iv na r0,vl_iv na r0,vld_iI,vl_iI,vb,Bool.and_self,cond_true] at n3 n4 n5
    rw [dm_eq hA hB a0 b0 va vb]
    have vQ:(Value.agg ⟨[.bool (!(na==nb)&& !((A/B)==0)),.string (str (enc (A/B)))]⟩)=iI (bif !(na==nb) then -(A/B) else (A/B)):=iv_iI (!(na==nb)) (q0)
    have vR:(Value.agg ⟨[.bool (na&& !((A%B)==0)),.string (str (enc (A%B)))]⟩)=iI (bif na then -(A%B) else (A%B)):=iv_iI na r0
    have hvl:vl nb sb=bif nb then -B else B:=by unfold vl; rw [hB]
    by_cases hR:A%B=0
    · have hRb:((A%B)==0)=true:=by rw [beq_iff_eq]; omega
      refine (n5 (by rw [hRb]; rfl)).trans ?_
      rw [vQ,vR]
      have eR0:(A%B)=0:=by omega
      cases hN:na==nb
      · rw [hN] at*
        simp only [cond_false,cond_true,Bool.not_false,if_pos hR]
        rw [eR0,show (bif na then -(0:Int) else 0)=0 by cases na<;>rfl]
      · rw [hN] at*
        simp only [cond_false,cond_true,Bool.not_true]
    · have hRb:((A%B)==0)=false:=by rw [beq_eq_false_iff_ne]; omega
      cases hN:na==nb
      · refine (n3 (by rw [hRb]; rfl) (by rw [hN]; rfl) (by rw [enc_small (s:=sa) q0 (by rw [hA]; exact Int.ediv_le_self B a0) (by omega)]; rfl) (by rw [enc_small (s:=sa) r0 (by rw [hA]; have:=Int.mul_ediv_add_emod A B; have:=Int.mul_nonneg (Int.le_of_lt b0) q0; omega) (by omega),szM_ok hsb]; rfl)).trans ?_
        rw [hvl]
        show some (Value.tuple ⟨[iI ((bif !(na==nb) then -(A/B) else (A/B))-1),iI ((bif na then -(A%B) else (A%B))+(bif nb then -B else B)),_]⟩,_)=_
        rw [hN]
        simp only [cond_false,cond_true,Bool.not_false,if_neg hR]
      · refine (n4 (by rw [hRb]; rfl) (by rw [hN]; rfl)).trans ?_
        rw [vQ,vR]
        rw [hN]
        simp only [cond_false,cond_true,Bool.not_true]
  · cases h
theorem DivMod2.ok:SOK Tryz.prog 198 (dmS 2):=by
  refine sok_of (E:=⟨[(157,Valid.sp),(188,of.sp),(187,with.sp),(203,div2.sp),(169,Sub.sp),(160,Of.sp),(162,Add.sp)],[],[]⟩) (L:=[]) ⟨specs_cons Valid.ok (specs_cons of.ok (specs_cons with.ok (specs_cons div2.ok (specs_cons Sub.ok (specs_cons Of.ok (specs_cons Add.ok specs_nil)))))),inl_nil,mixed_ok,lps_nil⟩ 10 Tryz.func198 (by decide) rfl no_loops fun vs bl v bl' h=> ?_
  unfold dmS at h
  split at h
  · rename_i na sa nb sb
    simp only [Option.some.injEq,Prod.mk.injEq,Bool.and_eq_true] at h
    obtain ⟨⟨hsa,hsb,hcc⟩,rfl,rfl⟩:=h
    refine ⟨?_,by simp [okV],by unfold dmV; cases vld na sa&&vld nb sb<;>simp only [cond_true,cond_false]<;>(try cases (bv sb.data.toList==0))<;>exact clo_spec 8 _ rfl,told_blk rfl⟩
    cases va:vld na sa with
    |false=>exact (rDM2.run0 na sa nb sb (not_false' va)).trans (by unfold dmV; rw [va,Bool.false_and,cond_false]; rw [iI_zero])
    |true=>
    cases vb:vld nb sb with
    |false=>exact (rDM2.run1 na sa nb sb (not_true' va) (not_false' vb)).trans (by unfold dmV; rw [va,vb,Bool.and_false,cond_false]; rw [iI_zero])
    |true=>
    have hsn:(sb.toList==(⟨#[]⟩:ByteArray).toList)=(bv sb.data.toList==0):=by
      have h1:=str_nil sb.data.toList
      have h2:=enc_empty (bv_nonneg sb.data.toList)
      rw [enc_bv (tz_vld vb)] at h2
      rw [←h2]; exact h1
    cases hz:(bv sb.data.toList==0) with
    |true=>exact (rDM2.run2 na sa nb sb (not_true' va) (not_true' vb) (hsn.trans hz)).trans (by unfold dmV; rw [va,vb,hz,Bool.and_self,cond_true,cond_true]; rw [iI_zero])
    |false=>
    have hc:dmC 2 sa sb=true:=by simpa [va,vb,hz] using hcc
    have b0:0<bv sb.data.toList:=by
      have:=bv_nonneg sb.data.toList
      have:bv sb.data.toList≠0:=by simpa using hz
      omega
    have a0:=bv_nonneg sa.data.toList
    have a1:=bv_lt_nd sa
    have b1:=bv_lt_nd sb
    have hsa':=Nat.le_of_ble_eq_true hsa
    have hsb':=Nat.le_of_ble_eq_true hsb
    have na_:nd sa≤1073741825:=by unfold nd; omega
    have nb_:nd sb≤1073741825:=by unfold nd; omega
    generalize hA:bv sa.data.toList=A at*
    generalize hB:bv sb.data.toList=B at*
    have oA:=okc (n:=nd sa) A (by omega)
    have oB:=okc (n:=nd sb) B (by omega)
    have ta:=tl_le (dg (nd sa) A)
    have tb:=tl_le (dg (nd sb) B)
    rw [dg_length] at ta tb
    have q0:0≤A/B:=Int.ediv_nonneg a0 (Int.le_of_lt b0)
    have r0:=Int.emod_nonneg A (show B≠0 by omega)
    obtain ⟨hle,h2B⟩:B≤A∧2≤tl (dg (nd sb) B):=by simpa [dmC,hA,hB] using hc
    have hBs:=lt_tl (Int.le_of_lt b0) b1
    have hAs:=lt_tl a0 a1
    have hml:=tl_mono a0 a1 (Int.le_of_lt b0) b1 hle
    obtain ⟨_,htop⟩:=tl_top b0 b1
    have q1:A/B<pw (tl (dg (nd sa) A)+1-tl (dg (nd sb) B)):=by
      refine Int.ediv_lt_of_lt_mul b0 ?_
      have g1:pw (tl (dg (nd sb) B)-1)≤B:=tl_ge' (Int.le_of_lt b0) b1 (by omega)
      have g2:pw (tl (dg (nd sb) B)-1)*pw (tl (dg (nd sa) A)+1-tl (dg (nd sb) B))=pw (tl (dg (nd sa) A)):=by rw [←pw_add]; congr 1; omega
      have g3:pw (tl (dg (nd sb) B)-1)*pw (tl (dg (nd sa) A)+1-tl (dg (nd sb) B))≤B*pw (tl (dg (nd sa) A)+1-tl (dg (nd sb) B)):=Int.mul_le_mul_of_nonneg_right g1 (by have:=pw_pos (tl (dg (nd sa) A)+1-tl (dg (nd sb) B)); omega)
      rw [Int.mul_comm] at g3
      rw [Int.mul_comm] at g2
      have g4:=Int.mul_comm B (pw (tl (dg (nd sa) A)+1-tl (dg (nd sb) B)))
      omega
    have r1:A%B<pw (tl (dg (nd sa) A)+1):=by
      have:=pw_mono (show tl (dg (nd sa) A)≤tl (dg (nd sa) A)+1 by omega)
      have:=Int.emod_lt_of_pos A b0
      omega
    have hcm:0≤cmpI (tl (dg (nd sa) A)) (tl (dg (nd sb) B)) A B:=(cmpI_ge a0 a1 (Int.le_of_lt b0) b1).2 hle
    have n3:=rDM2.run3 na sa nb sb (not_true' va) (not_true' vb) (hsn.trans hz)
    have n4:=rDM2.run4 na sa nb sb (not_true' va) (not_true' vb) (hsn.trans hz)
    have n5:=rDM2.run5 na sa nb sb (not_true' va) (not_true' vb) (hsn.trans hz)
    simp only [hA,hB,nvc a0 a1,nvc (Int.le_of_lt b0) b1,nvc q0 q1,nvc r0 r1] at n3 n4 n5
    have y1:=Nat.ble_eq_true_of_le (show sa.size≤8589934592 by omega)
    have y2:=Nat.ble_eq_true_of_le (show sb.size≤8589934592 by omega)
    replace n3:=n3 y1 y2 (by simp only [oA,oB,dtrue hcm,dtrue htop,Bool.and_true,Bool.true_and,Bool.and_eq_true,Nat.ble_eq]; omega) (okc _ (by omega)) (okc _ (by omega))
    replace n4:=n4 y1 y2 (by simp only [oA,oB,dtrue hcm,dtrue htop,Bool.and_true,Bool.true_and,Bool.and_eq_true,Nat.ble_eq]; omega) (okc _ (by omega)) (okc _ (by omega))
    replace n5:=n5 y1 y2 (by simp only [oA,oB,dtrue hcm,dtrue htop,Bool.and_true,Bool.true_and,Bool.and_eq_true,Nat.ble_eq]; omega) (okc _ (by omega)) (okc _ (by omega))
    simp only [str_enc_nil r0,vld_iv (!(na==nb)) (q0),vl_iv (!(na==nb)) (q0),vld_iv na r0,vl_iv na r0,vld_iI,vl_iI,vb,Bool.and_self,cond_true] at n3 n4 n5
    rw [dm_eq hA hB a0 b0 va vb]
    have vQ:(Value.agg ⟨[.bool (!(na==nb)&& !((A/B)==0)),.string (str (enc (A/B)))]⟩)=iI (bif !(na==nb) then -(A/B) else (A/B)):=iv_iI (!(na==nb)) (q0)
    have vR:(Value.agg ⟨[.bool (na&& !((A%B)==0)),.string (str (enc (A%B)))]⟩)=iI (bif na then -(A%B) else (A%B)):=iv_iI na r0
    have hvl:vl nb sb=bif nb then -B else B:=by unfold vl; rw [hB]
    by_cases hR:A%B=0
    · have hRb:((A%B)==0)=true:=by rw [beq_iff_eq]; omega
      refine (n5 (by rw [hRb]; rfl)).trans ?_
      rw [vQ,vR]
      have eR0:(A%B)=0:=by omega
      cases hN:na==nb
      · rw [hN] at*
        simp only [cond_false,cond_true,Bool.not_false,if_pos hR]
        rw [eR0,show (bif na then -(0:Int) else 0)=0 by cases na<;>rfl]
      · rw [hN] at*
        simp only [cond_false,cond_true,Bool.not_true]
    · have hRb:((A%B)==0)=false:=by rw [beq_eq_false_iff_ne]; omega
      cases hN:na==nb
      · refine (n3 (by rw [hRb]; rfl) (by rw [hN]; rfl) (by rw [enc_small (s:=sa) q0 (by rw [hA]; exact Int.ediv_le_self B a0) (by omega)]; rfl) (by rw [enc_small (s:=sa) r0 (by rw [hA]; have:=Int.mul_ediv_add_emod A B; have:=Int.mul_nonneg (Int.le_of_lt b0) q0; omega) (by omega),szM_ok hsb]; rfl)).trans ?_
        rw [hvl]
        show some (Value.tuple ⟨[iI ((bif !(na==nb) then -(A/B) else (A/B))-1),iI ((bif na then -(A%B) else (A%B))+(bif nb then -B else B)),_]⟩,_)=_
        rw [hN]
        simp only [cond_false,cond_true,Bool.not_false,if_neg hR]
      · refine (n4 (by rw [hRb]; rfl) (by rw [hN]; rfl)).trans ?_
        rw [vQ,vR]
        rw [hN]
        simp only [cond_false,cond_true,Bool.not_true]
  · cases h
theorem DivMod.ok:SOK Tryz.prog 198 DivMod.sp:=by
  refine sok_or (s1:=dmS 0) (s2:=fun vs bl=>match vs,bl with|[.agg ⟨[.bool na,.string sa]⟩,.agg ⟨[.bool nb,.string sb]⟩],[]=>some (szM sa&&(szM sb&&(!(vld na sa&&vld nb sb&& !(bv sb.data.toList==0))||(dmC 1 sa sb||dmC 2 sa sb))),dmV na sa nb sb,[])|_,_=>none) DivMod0.ok (sok_or (s1:=dmS 1) (s2:=dmS 2) DivMod1.ok DivMod2.ok ?_) ?_
  · intro vs bl v bl' h
    split at h
    · rename_i na sa nb sb
      simp only [Option.some.injEq,Prod.mk.injEq,Bool.and_eq_true,Bool.or_eq_true] at h
      obtain ⟨⟨h1,h2,h3⟩,rfl,rfl⟩:=h
      unfold dmS
      simp only [Option.some.injEq,Prod.mk.injEq,Bool.and_eq_true,Bool.or_eq_true]
      rcases h3 with h3|h3|h3
      · exact .inl ⟨⟨h1,h2,.inl h3⟩,trivial⟩
      · exact .inl ⟨⟨h1,h2,.inr h3⟩,trivial⟩
      · exact .inr ⟨⟨h1,h2,.inr h3⟩,trivial⟩
    · cases h
  · intro vs bl v bl' h
    unfold DivMod.sp at h
    split at h
    · rename_i na sa nb sb
      simp only [Option.some.injEq,Prod.mk.injEq,Bool.and_eq_true] at h
      obtain ⟨⟨h1,h2⟩,rfl,rfl⟩:=h
      unfold dmS
      simp only [Option.some.injEq,Prod.mk.injEq,Bool.and_eq_true,Bool.or_eq_true]
      cases hz:(vld na sa&&vld nb sb&& !(bv sb.data.toList==0)) with
      |false=>exact .inl ⟨⟨h1,h2,.inl rfl⟩,trivial⟩
      | true=>
        by_cases hlt:bv sa.data.toList<bv sb.data.toList
        · exact .inl ⟨⟨h1,h2,.inr (dtrue hlt)⟩,trivial⟩
        · refine .inr ⟨⟨h1,h2,.inr ?_⟩,trivial⟩
          have b0:0<bv sb.data.toList:=by
            have h5:=bv_nonneg sb.data.toList
            simp only [Bool.and_eq_true,Bool.not_eq_true',beq_eq_false_iff_ne] at hz
            omega
          obtain ⟨ht,_⟩:=tl_top b0 (bv_lt_nd sb)
          by_cases h1B:tl (dg (nd sb) (bv sb.data.toList))=1
          · refine .inl ?_
            simp only [dmC,Bool.and_eq_true,decide_eq_true_eq,Nat.beq_eq]; omega
          · refine .inr ?_
            simp only [dmC,Bool.and_eq_true,decide_eq_true_eq,Nat.ble_eq]; omega
    · cases h
end Go.Proofs.YtpejalpgficopaaGreatDoor.G
end
section
namespace Go.Proofs.YtpejalpgficopaaGreatDoor.G
open Go Go.Proofs RX
set_option linter.unusedVariables false
set_option linter.defProp false
set_option linter.unusedSimpArgs false
section
variable {N:Nat→Prop} {xe:X} {Se:St} (zb:Bool) (zs:ByteArray) (lx cx ly cy:Nat) (xs ys:List Int)
abbrev gcd0.st:St:=⟨gbuild [(4,.pointer (some ⟨32,0,none⟩)),(5,.slice (some ⟨208,0,none⟩) lx cx),(6,.slice (some ⟨256,0,none⟩) ly cy)] 0 65,[(208,.is .u32 xs 64),(256,.is .u32 ys 64),(32,.cs [Value.bool zb,Value.string zs] 23)],304⟩
set_option maxRecDepth 100000 in
theorem gcd0.rnd:rd Tryz.prog ⟨[(203,div0.sp)],[],[]⟩ [] 5 (loopCode Tryz.f185 0) (gcd0.st zb zs lx cx ly cy xs ys) 65 [4,5,6] [208,256,32]=
 bif decide (((ly:Nat):Int)>2) then bif natOk 0 lx xs&&natOk 0 ly ys&&decide (cmpI lx ly (nv (seg xs 0 lx)) (nv (seg ys 0 ly))<0) then some ((X.normal,[Value.pointer (some {block:=32,off:=0}),Value.slice (some {block:=256,off:=0}) ly cy,Value.slice (some {block:=208,off:=0}) lx cx],[some (Blk.is IntKind.u32 xs 64),some (Blk.is IntKind.u32 ys 64),some (Blk.cs [Value.bool zb,Value.string zs] 23)])) else none else bif decide (((lx:Nat):Int)>2) then bif decide (((ly:Nat):Int)>0) then bif natOk 0 lx xs&&natOk 0 ly ys&&decide (cmpI lx ly (nv (seg xs 0 lx)) (nv (seg ys 0 ly))<0) then some ((X.normal,[Value.pointer (some {block:=32,off:=0}),Value.slice (some {block:=256,off:=0}) ly cy,Value.slice (some {block:=208,off:=0}) lx cx],[some (Blk.is IntKind.u32 xs 64),some (Blk.is IntKind.u32 ys 64),some (Blk.cs [Value.bool zb,Value.string zs] 23)])) else none else some ((X.exit 0,[Value.pointer (some {block:=32,off:=0}),Value.slice (some {block:=208,off:=0}) lx cx,Value.slice (some {block:=256,off:=0}) ly cy],[some (Blk.is IntKind.u32 xs 64),some (Blk.is IntKind.u32 ys 64),some (Blk.cs [Value.bool zb,Value.string zs] 23)])) else some ((X.exit 0,[Value.pointer (some {block:=32,off:=0}),Value.slice (some {block:=208,off:=0}) lx cx,Value.slice (some {block:=256,off:=0}) ly cy],[some (Blk.is IntKind.u32 xs 64),some (Blk.is IntKind.u32 ys 64),some (Blk.cs [Value.bool zb,Value.string zs] 23)])):=by kernel_rfl
def gcd0.step0:=fun h0 h1 (ih:Lq Tryz.prog (fun n=>n=0) (loopCode Tryz.f185 0) (gcd0.st zb zs ly cy lx cx ys xs) xe (Se))=>Lq.step (S2:=gcd0.st zb zs ly cy lx cx ys xs) (f:=5) ⟨specs_cons div0.ok specs_nil,inl_nil,mixed_ok,lps_nil⟩ lsOk_nil (((gcd0.rnd zb zs lx cx ly cy xs ys).ct h0).ct h1) (fun h=>qr_of (ρ:=mp [(208,256),(256,208)]) (.cons ⟨⟨_,rfl,(ruP rfl)⟩,(bptr (Nat.le_of_ble_eq_true rfl))⟩ (.cons ⟨⟨_,rfl,(ruS rfl)⟩,(bslice (Nat.le_of_ble_eq_true rfl))⟩ (.cons ⟨⟨_,rfl,(ruS rfl)⟩,(bslice (Nat.le_of_ble_eq_true rfl))⟩ .nil))) (.cons ⟨rfl,(Nat.le_of_ble_eq_true rfl),rfl⟩ (.cons ⟨rfl,(Nat.le_of_ble_eq_true rfl),rfl⟩ (.cons ⟨rfl,(Nat.le_of_ble_eq_true rfl),rfl⟩ .nil))) rfl) ih
def gcd0.step1:=fun h0 h1 h2 h3 (ih:Lq Tryz.prog (fun n=>n=0) (loopCode Tryz.f185 0) (gcd0.st zb zs ly cy lx cx ys xs) xe (Se))=>Lq.step (S2:=gcd0.st zb zs ly cy lx cx ys xs) (f:=5) ⟨specs_cons div0.ok specs_nil,inl_nil,mixed_ok,lps_nil⟩ lsOk_nil (((((gcd0.rnd zb zs lx cx ly cy xs ys).cf h0).ct h1).ct h2).ct h3) (fun h=>qr_of (ρ:=mp [(208,256),(256,208)]) (.cons ⟨⟨_,rfl,(ruP rfl)⟩,(bptr (Nat.le_of_ble_eq_true rfl))⟩ (.cons ⟨⟨_,rfl,(ruS rfl)⟩,(bslice (Nat.le_of_ble_eq_true rfl))⟩ (.cons ⟨⟨_,rfl,(ruS rfl)⟩,(bslice (Nat.le_of_ble_eq_true rfl))⟩ .nil))) (.cons ⟨rfl,(Nat.le_of_ble_eq_true rfl),rfl⟩ (.cons ⟨rfl,(Nat.le_of_ble_eq_true rfl),rfl⟩ (.cons ⟨rfl,(Nat.le_of_ble_eq_true rfl),rfl⟩ .nil))) rfl) ih
def gcd0.stop2:=fun h0 h1 h2=>Lq.stop (S2:=gcd0.st zb zs lx cx ly cy xs ys) (N:=(fun n=>n=0)) (f:=5) ⟨specs_cons div0.ok specs_nil,inl_nil,mixed_ok,lps_nil⟩ lsOk_nil ((((gcd0.rnd zb zs lx cx ly cy xs ys).cf h0).ct h1).cf h2) (fun q=>by cases q) (fun h=>qr_of (ρ:=mp []) (.cons ⟨⟨_,rfl,(ruP rfl)⟩,(bptr (Nat.le_of_ble_eq_true rfl))⟩ (.cons ⟨⟨_,rfl,(ruS rfl)⟩,(bslice (Nat.le_of_ble_eq_true rfl))⟩ (.cons ⟨⟨_,rfl,(ruS rfl)⟩,(bslice (Nat.le_of_ble_eq_true rfl))⟩ .nil))) (.cons ⟨rfl,(Nat.le_of_ble_eq_true rfl),rfl⟩ (.cons ⟨rfl,(Nat.le_of_ble_eq_true rfl),rfl⟩ (.cons ⟨rfl,(Nat.le_of_ble_eq_true rfl),rfl⟩ .nil))) rfl)
def gcd0.stop3:=fun h0 h1=>Lq.stop (S2:=gcd0.st zb zs lx cx ly cy xs ys) (N:=(fun n=>n=0)) (f:=5) ⟨specs_cons div0.ok specs_nil,inl_nil,mixed_ok,lps_nil⟩ lsOk_nil (((gcd0.rnd zb zs lx cx ly cy xs ys).cf h0).cf h1) (fun q=>by cases q) (fun h=>qr_of (ρ:=mp []) (.cons ⟨⟨_,rfl,(ruP rfl)⟩,(bptr (Nat.le_of_ble_eq_true rfl))⟩ (.cons ⟨⟨_,rfl,(ruS rfl)⟩,(bslice (Nat.le_of_ble_eq_true rfl))⟩ (.cons ⟨⟨_,rfl,(ruS rfl)⟩,(bslice (Nat.le_of_ble_eq_true rfl))⟩ .nil))) (.cons ⟨rfl,(Nat.le_of_ble_eq_true rfl),rfl⟩ (.cons ⟨rfl,(Nat.le_of_ble_eq_true rfl),rfl⟩ (.cons ⟨rfl,(Nat.le_of_ble_eq_true rfl),rfl⟩ .nil))) rfl)
end
section
variable {N:Nat→Prop} {xe:X} {Se:St} (zb:Bool) (zs:ByteArray) (lx cx ly cy:Nat) (xs ys:List Int)
set_option maxRecDepth 100000 in
theorem gcd1.rnd:rd Tryz.prog ⟨[(203,div1.sp)],[],[]⟩ [] 5 (loopCode Tryz.f185 0) (gcd0.st zb zs lx cx ly cy xs ys) 65 [4,5,6] [208,256,32,417,545]=
 bif decide (((ly:Nat):Int)>2) then bif natOk 0 lx xs&&(natOk 0 ly ys&&(ly.beq 1&&(decide (0≤cmpI lx ly (nv (seg xs 0 lx)) (nv (seg ys 0 ly)))&&decide (0<nv (seg ys 0 ly))))) then some ((X.normal,[Value.pointer (some {block:=32,off:=0}),Value.slice (some {block:=256,off:=0}) ly cy,Value.slice (some {block:=417,off:=0}) (tl (dg 1 (nv (seg xs 0 lx)%nv (seg ys 0 ly)))) 1],[some (Blk.is IntKind.u32 xs 64),some (Blk.is IntKind.u32 ys 64),some (Blk.cs [Value.bool zb,Value.string zs] 23),some (Blk.is IntKind.u32 (dg 1 (nv (seg xs 0 lx)%nv (seg ys 0 ly))) 64),none])) else none else bif decide (((lx:Nat):Int)>2) then bif decide (((ly:Nat):Int)>0) then bif natOk 0 lx xs&&(natOk 0 ly ys&&(ly.beq 1&&(decide (0≤cmpI lx ly (nv (seg xs 0 lx)) (nv (seg ys 0 ly)))&&decide (0<nv (seg ys 0 ly))))) then some ((X.normal,[Value.pointer (some {block:=32,off:=0}),Value.slice (some {block:=256,off:=0}) ly cy,Value.slice (some {block:=545,off:=0}) (tl (dg 1 (nv (seg xs 0 lx)%nv (seg ys 0 ly)))) 1],[some (Blk.is IntKind.u32 xs 64),some (Blk.is IntKind.u32 ys 64),some (Blk.cs [Value.bool zb,Value.string zs] 23),none,some (Blk.is IntKind.u32 (dg 1 (nv (seg xs 0 lx)%nv (seg ys 0 ly))) 64)])) else none else some ((X.exit 0,[Value.pointer (some {block:=32,off:=0}),Value.slice (some {block:=208,off:=0}) lx cx,Value.slice (some {block:=256,off:=0}) ly cy],[some (Blk.is IntKind.u32 xs 64),some (Blk.is IntKind.u32 ys 64),some (Blk.cs [Value.bool zb,Value.string zs] 23),none,none])) else some ((X.exit 0,[Value.pointer (some {block:=32,off:=0}),Value.slice (some {block:=208,off:=0}) lx cx,Value.slice (some {block:=256,off:=0}) ly cy],[some (Blk.is IntKind.u32 xs 64),some (Blk.is IntKind.u32 ys 64),some (Blk.cs [Value.bool zb,Value.string zs] 23),none,none])):=by kernel_rfl
def gcd1.step0:=fun h0 h1 (ih:Lq Tryz.prog (fun n=>n=0) (loopCode Tryz.f185 0) (gcd0.st zb zs ly cy (tl (dg 1 (nv (seg xs 0 lx)%nv (seg ys 0 ly)))) 1 ys (dg 1 (nv (seg xs 0 lx)%nv (seg ys 0 ly)))) xe (Se))=>Lq.step (S2:=gcd0.st zb zs ly cy (tl (dg 1 (nv (seg xs 0 lx)%nv (seg ys 0 ly)))) 1 ys (dg 1 (nv (seg xs 0 lx)%nv (seg ys 0 ly)))) (f:=5) ⟨specs_cons div1.ok specs_nil,inl_nil,mixed_ok,lps_nil⟩ lsOk_nil (((gcd1.rnd zb zs lx cx ly cy xs ys).ct h0).ct h1) (fun h=>qr_of (ρ:=mp [(208,256),(256,417)]) (.cons ⟨⟨_,rfl,(ruP rfl)⟩,(bptr (Nat.le_of_ble_eq_true rfl))⟩ (.cons ⟨⟨_,rfl,(ruS rfl)⟩,(bslice (Nat.le_of_ble_eq_true rfl))⟩ (.cons ⟨⟨_,rfl,(ruS rfl)⟩,(bslice (Nat.le_of_ble_eq_true rfl))⟩ .nil))) (.cons ⟨rfl,(Nat.le_of_ble_eq_true rfl),rfl⟩ (.cons ⟨rfl,(Nat.le_of_ble_eq_true rfl),rfl⟩ (.cons ⟨rfl,(Nat.le_of_ble_eq_true rfl),rfl⟩ .nil))) rfl) ih
def gcd1.step1:=fun h0 h1 h2 h3 (ih:Lq Tryz.prog (fun n=>n=0) (loopCode Tryz.f185 0) (gcd0.st zb zs ly cy (tl (dg 1 (nv (seg xs 0 lx)%nv (seg ys 0 ly)))) 1 ys (dg 1 (nv (seg xs 0 lx)%nv (seg ys 0 ly)))) xe (Se))=>Lq.step (S2:=gcd0.st zb zs ly cy (tl (dg 1 (nv (seg xs 0 lx)%nv (seg ys 0 ly)))) 1 ys (dg 1 (nv (seg xs 0 lx)%nv (seg ys 0 ly)))) (f:=5) ⟨specs_cons div1.ok specs_nil,inl_nil,mixed_ok,lps_nil⟩ lsOk_nil (((((gcd1.rnd zb zs lx cx ly cy xs ys).cf h0).ct h1).ct h2).ct h3) (fun h=>qr_of (ρ:=mp [(208,256),(256,545)]) (.cons ⟨⟨_,rfl,(ruP rfl)⟩,(bptr (Nat.le_of_ble_eq_true rfl))⟩ (.cons ⟨⟨_,rfl,(ruS rfl)⟩,(bslice (Nat.le_of_ble_eq_true rfl))⟩ (.cons ⟨⟨_,rfl,(ruS rfl)⟩,(bslice (Nat.le_of_ble_eq_true rfl))⟩ .nil))) (.cons ⟨rfl,(Nat.le_of_ble_eq_true rfl),rfl⟩ (.cons ⟨rfl,(Nat.le_of_ble_eq_true rfl),rfl⟩ (.cons ⟨rfl,(Nat.le_of_ble_eq_true rfl),rfl⟩ .nil))) rfl) ih
def gcd1.stop2:=fun h0 h1 h2=>Lq.stop (S2:=gcd0.st zb zs lx cx ly cy xs ys) (N:=(fun n=>n=0)) (f:=5) ⟨specs_cons div1.ok specs_nil,inl_nil,mixed_ok,lps_nil⟩ lsOk_nil ((((gcd1.rnd zb zs lx cx ly cy xs ys).cf h0).ct h1).cf h2) (fun q=>by cases q) (fun h=>qr_of (ρ:=mp []) (.cons ⟨⟨_,rfl,(ruP rfl)⟩,(bptr (Nat.le_of_ble_eq_true rfl))⟩ (.cons ⟨⟨_,rfl,(ruS rfl)⟩,(bslice (Nat.le_of_ble_eq_true rfl))⟩ (.cons ⟨⟨_,rfl,(ruS rfl)⟩,(bslice (Nat.le_of_ble_eq_true rfl))⟩ .nil))) (.cons ⟨rfl,(Nat.le_of_ble_eq_true rfl),rfl⟩ (.cons ⟨rfl,(Nat.le_of_ble_eq_true rfl),rfl⟩ (.cons ⟨rfl,(Nat.le_of_ble_eq_true rfl),rfl⟩ .nil))) rfl)
def gcd1.stop3:=fun h0 h1=>Lq.stop (S2:=gcd0.st zb zs lx cx ly cy xs ys) (N:=(fun n=>n=0)) (f:=5) ⟨specs_cons div1.ok specs_nil,inl_nil,mixed_ok,lps_nil⟩ lsOk_nil (((gcd1.rnd zb zs lx cx ly cy xs ys).cf h0).cf h1) (fun q=>by cases q) (fun h=>qr_of (ρ:=mp []) (.cons ⟨⟨_,rfl,(ruP rfl)⟩,(bptr (Nat.le_of_ble_eq_true rfl))⟩ (.cons ⟨⟨_,rfl,(ruS rfl)⟩,(bslice (Nat.le_of_ble_eq_true rfl))⟩ (.cons ⟨⟨_,rfl,(ruS rfl)⟩,(bslice (Nat.le_of_ble_eq_true rfl))⟩ .nil))) (.cons ⟨rfl,(Nat.le_of_ble_eq_true rfl),rfl⟩ (.cons ⟨rfl,(Nat.le_of_ble_eq_true rfl),rfl⟩ (.cons ⟨rfl,(Nat.le_of_ble_eq_true rfl),rfl⟩ .nil))) rfl)
end
section
variable {N:Nat→Prop} {xe:X} {Se:St} (zb:Bool) (zs:ByteArray) (lx cx ly cy:Nat) (xs ys:List Int)
set_option maxRecDepth 100000 in
theorem gcd2.rnd:rd Tryz.prog ⟨[(203,div2.sp)],[],[]⟩ [] 5 (loopCode Tryz.f185 0) (gcd0.st zb zs lx cx ly cy xs ys) 65 [4,5,6] [208,256,32,417,545]=
 bif decide (((ly:Nat):Int)>2) then bif natOk 0 lx xs&&(natOk 0 ly ys&&(Nat.ble 2 ly&&(ly.ble lx&&(lx.ble 4294967295&&(decide (0≤cmpI lx ly (nv (seg xs 0 lx)) (nv (seg ys 0 ly)))&&decide (0<ys.getD (0+(ly-1)) 0)))))) then some ((X.normal,[Value.pointer (some {block:=32,off:=0}),Value.slice (some {block:=256,off:=0}) ly cy,Value.slice (some {block:=417,off:=0}) (tl (dg (lx+1) (nv (seg xs 0 lx)%nv (seg ys 0 ly)))) (lx+1)],[some (Blk.is IntKind.u32 xs 64),some (Blk.is IntKind.u32 ys 64),some (Blk.cs [Value.bool zb,Value.string zs] 23),some (Blk.is IntKind.u32 (dg (lx+1) (nv (seg xs 0 lx)%nv (seg ys 0 ly))) 64),none])) else none else bif decide (((lx:Nat):Int)>2) then bif decide (((ly:Nat):Int)>0) then bif natOk 0 lx xs&&(natOk 0 ly ys&&(Nat.ble 2 ly&&(ly.ble lx&&(lx.ble 4294967295&&(decide (0≤cmpI lx ly (nv (seg xs 0 lx)) (nv (seg ys 0 ly)))&&decide (0<ys.getD (0+(ly-1)) 0)))))) then some ((X.normal,[Value.pointer (some {block:=32,off:=0}),Value.slice (some {block:=256,off:=0}) ly cy,Value.slice (some {block:=545,off:=0}) (tl (dg (lx+1) (nv (seg xs 0 lx)%nv (seg ys 0 ly)))) (lx+1)],[some (Blk.is IntKind.u32 xs 64),some (Blk.is IntKind.u32 ys 64),some (Blk.cs [Value.bool zb,Value.string zs] 23),none,some (Blk.is IntKind.u32 (dg (lx+1) (nv (seg xs 0 lx)%nv (seg ys 0 ly))) 64)])) else none else some ((X.exit 0,[Value.pointer (some {block:=32,off:=0}),Value.slice (some {block:=208,off:=0}) lx cx,Value.slice (some {block:=256,off:=0}) ly cy],[some (Blk.is IntKind.u32 xs 64),some (Blk.is IntKind.u32 ys 64),some (Blk.cs [Value.bool zb,Value.string zs] 23),none,none])) else some ((X.exit 0,[Value.pointer (some {block:=32,off:=0}),Value.slice (some {block:=208,off:=0}) lx cx,Value.slice (some {block:=256,off:=0}) ly cy],[some (Blk.is IntKind.u32 xs 64),some (Blk.is IntKind.u32 ys 64),some (Blk.cs [Value.bool zb,Value.string zs] 23),none,none])):=by kernel_rfl
def gcd2.step0:=fun h0 h1 (ih:Lq Tryz.prog (fun n=>n=0) (loopCode Tryz.f185 0) (gcd0.st zb zs ly cy (tl (dg (lx+1) (nv (seg xs 0 lx)%nv (seg ys 0 ly)))) (lx+1) ys (dg (lx+1) (nv (seg xs 0 lx)%nv (seg ys 0 ly)))) xe (Se))=>Lq.step (S2:=gcd0.st zb zs ly cy (tl (dg (lx+1) (nv (seg xs 0 lx)%nv (seg ys 0 ly)))) (lx+1) ys (dg (lx+1) (nv (seg xs 0 lx)%nv (seg ys 0 ly)))) (f:=5) ⟨specs_cons div2.ok specs_nil,inl_nil,mixed_ok,lps_nil⟩ lsOk_nil (((gcd2.rnd zb zs lx cx ly cy xs ys).ct h0).ct h1) (fun h=>qr_of (ρ:=mp [(208,256),(256,417)]) (.cons ⟨⟨_,rfl,(ruP rfl)⟩,(bptr (Nat.le_of_ble_eq_true rfl))⟩ (.cons ⟨⟨_,rfl,(ruS rfl)⟩,(bslice (Nat.le_of_ble_eq_true rfl))⟩ (.cons ⟨⟨_,rfl,(ruS rfl)⟩,(bslice (Nat.le_of_ble_eq_true rfl))⟩ .nil))) (.cons ⟨rfl,(Nat.le_of_ble_eq_true rfl),rfl⟩ (.cons ⟨rfl,(Nat.le_of_ble_eq_true rfl),rfl⟩ (.cons ⟨rfl,(Nat.le_of_ble_eq_true rfl),rfl⟩ .nil))) rfl) ih
def gcd2.step1:=fun h0 h1 h2 h3 (ih:Lq Tryz.prog (fun n=>n=0) (loopCode Tryz.f185 0) (gcd0.st zb zs ly cy (tl (dg (lx+1) (nv (seg xs 0 lx)%nv (seg ys 0 ly)))) (lx+1) ys (dg (lx+1) (nv (seg xs 0 lx)%nv (seg ys 0 ly)))) xe (Se))=>Lq.step (S2:=gcd0.st zb zs ly cy (tl (dg (lx+1) (nv (seg xs 0 lx)%nv (seg ys 0 ly)))) (lx+1) ys (dg (lx+1) (nv (seg xs 0 lx)%nv (seg ys 0 ly)))) (f:=5) ⟨specs_cons div2.ok specs_nil,inl_nil,mixed_ok,lps_nil⟩ lsOk_nil (((((gcd2.rnd zb zs lx cx ly cy xs ys).cf h0).ct h1).ct h2).ct h3) (fun h=>qr_of (ρ:=mp [(208,256),(256,545)]) (.cons ⟨⟨_,rfl,(ruP rfl)⟩,(bptr (Nat.le_of_ble_eq_true rfl))⟩ (.cons ⟨⟨_,rfl,(ruS rfl)⟩,(bslice (Nat.le_of_ble_eq_true rfl))⟩ (.cons ⟨⟨_,rfl,(ruS rfl)⟩,(bslice (Nat.le_of_ble_eq_true rfl))⟩ .nil))) (.cons ⟨rfl,(Nat.le_of_ble_eq_true rfl),rfl⟩ (.cons ⟨rfl,(Nat.le_of_ble_eq_true rfl),rfl⟩ (.cons ⟨rfl,(Nat.le_of_ble_eq_true rfl),rfl⟩ .nil))) rfl) ih
def gcd2.stop2:=fun h0 h1 h2=>Lq.stop (S2:=gcd0.st zb zs lx cx ly cy xs ys) (N:=(fun n=>n=0)) (f:=5) ⟨specs_cons div2.ok specs_nil,inl_nil,mixed_ok,lps_nil⟩ lsOk_nil ((((gcd2.rnd zb zs lx cx ly cy xs ys).cf h0).ct h1).cf h2) (fun q=>by cases q) (fun h=>qr_of (ρ:=mp []) (.cons ⟨⟨_,rfl,(ruP rfl)⟩,(bptr (Nat.le_of_ble_eq_true rfl))⟩ (.cons ⟨⟨_,rfl,(ruS rfl)⟩,(bslice (Nat.le_of_ble_eq_true rfl))⟩ (.cons ⟨⟨_,rfl,(ruS rfl)⟩,(bslice (Nat.le_of_ble_eq_true rfl))⟩ .nil))) (.cons ⟨rfl,(Nat.le_of_ble_eq_true rfl),rfl⟩ (.cons ⟨rfl,(Nat.le_of_ble_eq_true rfl),rfl⟩ (.cons ⟨rfl,(Nat.le_of_ble_eq_true rfl),rfl⟩ .nil))) rfl)
def gcd2.stop3:=fun h0 h1=>Lq.stop (S2:=gcd0.st zb zs lx cx ly cy xs ys) (N:=(fun n=>n=0)) (f:=5) ⟨specs_cons div2.ok specs_nil,inl_nil,mixed_ok,lps_nil⟩ lsOk_nil (((gcd2.rnd zb zs lx cx ly cy xs ys).cf h0).cf h1) (fun q=>by cases q) (fun h=>qr_of (ρ:=mp []) (.cons ⟨⟨_,rfl,(ruP rfl)⟩,(bptr (Nat.le_of_ble_eq_true rfl))⟩ (.cons ⟨⟨_,rfl,(ruS rfl)⟩,(bslice (Nat.le_of_ble_eq_true rfl))⟩ (.cons ⟨⟨_,rfl,(ruS rfl)⟩,(bslice (Nat.le_of_ble_eq_true rfl))⟩ .nil))) (.cons ⟨rfl,(Nat.le_of_ble_eq_true rfl),rfl⟩ (.cons ⟨rfl,(Nat.le_of_ble_eq_true rfl),rfl⟩ (.cons ⟨rfl,(Nat.le_of_ble_eq_true rfl),rfl⟩ .nil))) rfl)
end
section
variable {N:Nat→Prop} {xe:X} {Se:St} (zb:Bool) (zs:ByteArray) (n m:Int) (nx:Nat)
abbrev gce.st:St:=⟨gbuild [(4,.pointer (some ⟨32,0,none⟩)),(9,.int .u64 n),(10,.int .u64 m)] 0 65,[(32,.cs [Value.bool zb,Value.string zs] 23)],nx⟩
abbrev gce.lk:=RX.lk [4,9,10] [32]
set_option maxRecDepth 100000 in
theorem gce.rnd:rd Tryz.prog ⟨[],[],[]⟩ [] 3 (loopCode Tryz.f185 2) (gce.st zb zs n m nx) 65 [4,9,10] [32]=
 bif m !=0 then bif m !=0 then gce.lk .normal (gce.st zb zs m (n.tmod m) nx) else none else gce.lk (.exit 2) (gce.st zb zs n m nx):=by kernel_rfl
def gce.step0:=fun h0 h1 (ih:Lq Tryz.prog N (loopCode Tryz.f185 2) _ xe Se)=>Lq.toK (f:=3) ⟨specs_nil,inl_nil,mixed_ok,lps_nil⟩ lsOk_nil (((gce.rnd zb zs n m nx).ct h0).ct h1) rfl rfl ih
def gce.stop1:=fun h0=>Lq.endK (N:=N) (f:=3) ⟨specs_nil,inl_nil,mixed_ok,lps_nil⟩ lsOk_nil ((gce.rnd zb zs n m nx).cf h0) (fun q=>by cases q) rfl rfl
end
theorem gcd_mod (a b:Int):Int.gcd a (b%a)=Int.gcd a b:=by
  have h:=Int.emod_add_mul_ediv b a
  have h1:=Int.gcd_add_mul_right_right a (b%a) (b/a)
  rw [Int.mul_comm (b/a),h] at h1
  exact h1.symm
theorem gI_ex:∃f:Int→Int→Int,∀a b,f a b=((Int.gcd a b:Nat):Int):=⟨_,fun _ _=>rfl⟩
noncomputable def gI:Int→Int→Int:=Classical.choose gI_ex
theorem gI_eq (a b:Int):gI a b=((Int.gcd a b:Nat):Int):=Classical.choose_spec gI_ex a b
structure GQ where
  xs:List Int
  cx:Nat
  ys:List Int
  cy:Nat
def GQ.more (q:GQ):Bool:=decide (2<tl q.ys)||(decide (2<tl q.xs)&&decide (0<tl q.ys))
def GQ.next (q:GQ):GQ:=bif decide (nv q.xs<nv q.ys) then ⟨q.ys,q.cy,q.xs,q.cx⟩ else bif Nat.beq (tl q.ys) 1 then ⟨q.ys,q.cy,dg 1 (nv q.xs%nv q.ys),1⟩ else ⟨q.ys,q.cy,dg (tl q.xs+1) (nv q.xs%nv q.ys),tl q.xs+1⟩
def GQ.go:Nat→GQ→GQ
  |0,q=>q
  |k+1,q=>bif q.more then GQ.go k q.next else q
theorem gq_ex:∃f:GQ→GQ,∀q,f q=GQ.go ((nv q.ys).toNat+1) q:=⟨_,fun _=>rfl⟩
noncomputable def gq:GQ→GQ:=Classical.choose gq_ex
theorem gq_eq (q:GQ):gq q=GQ.go ((nv q.ys).toNat+1) q:=Classical.choose_spec gq_ex q
structure GQ.Ok (q:GQ):Prop where
  x:dig q.xs
  y:dig q.ys
  lx:tl q.xs≤2147483648
  ly:tl q.ys≤2147483648
theorem nv_tl {xs:List Int} (h:dig xs):nv (seg xs 0 (tl xs))=nv xs:=nv_seg_tl h 0
theorem natOk_tl {xs:List Int} (h:dig xs) (h':tl xs≤2147483648):natOk 0 (tl xs) xs=true:=natOk_iff.2 ⟨by have:=tl_le xs; omega,by omega,h⟩
theorem cmp_tl {xs ys:List Int} (hx:dig xs) (hy:dig ys):cmpI (tl xs) (tl ys) (nv xs) (nv ys)≥0↔nv ys≤nv xs:=by
  have:=cmpI_ge (n:=xs.length) (m:=ys.length) (nv_nonneg hx) (nv_lt hx) (nv_nonneg hy) (nv_lt hy)
  rwa [dg_nv hx,dg_nv hy] at this
theorem tl_le_of {xs ys:List Int} (hx:dig xs) (hy:dig ys) (h:nv ys≤nv xs):tl ys≤tl xs:=by
  have:=tl_mono (n:=xs.length) (m:=ys.length) (nv_nonneg hx) (nv_lt hx) (nv_nonneg hy) (nv_lt hy) h
  rwa [dg_nv hx,dg_nv hy] at this
theorem top_of {ys:List Int} (hy:dig ys) (h:0<nv ys):1≤tl ys∧0<ys.getD (0+(tl ys-1)) 0:=by
  have:=tl_top h (nv_lt hy)
  rwa [dg_nv hy] at this
theorem lt_pw_tl {xs:List Int} (hx:dig xs):nv xs<pw (tl xs):=by
  have:=lt_tl (nv_nonneg hx) (nv_lt hx)
  rwa [dg_nv hx] at this
theorem pos_tl {ys:List Int} (hy:dig ys):0<tl ys↔0<nv ys:=by
  have h1:=tl_zero hy
  have h2:=nv_nonneg hy
  omega
theorem GQ.Ok.next {q:GQ} (h:q.Ok) (hm:q.more=true):q.next.Ok∧nv q.next.ys<nv q.ys∧0≤nv q.next.ys∧Int.gcd (nv q.next.xs) (nv q.next.ys)=Int.gcd (nv q.xs) (nv q.ys):=by
  obtain ⟨hx,hy,lx,ly⟩:=h
  have hp:0<nv q.ys:=(pos_tl hy).1 (by simp only [GQ.more,Bool.or_eq_true,Bool.and_eq_true,decide_eq_true_eq] at hm; omega)
  have a0:=nv_nonneg hx
  have m0:=Int.emod_nonneg (nv q.xs) (show nv q.ys≠0 by omega)
  have m1:=Int.emod_lt_of_pos (nv q.xs) hp
  have hg:Int.gcd (nv q.ys) (nv q.xs%nv q.ys)=Int.gcd (nv q.xs) (nv q.ys):=by
    rw [Int.gcd_comm (nv q.xs)]; exact gcd_mod _ _
  unfold GQ.next
  cases hc:decide (nv q.xs<nv q.ys) with
  | true=>
    simp only [cond_true]
    exact ⟨⟨hy,hx,ly,lx⟩,of_decide_eq_true hc,a0,Int.gcd_comm _ _⟩
  | false=>
    have hc:=of_decide_eq_false hc
    have hlx:=lt_pw_tl hx
    simp only [cond_false]
    cases hb:Nat.beq (tl q.ys) 1 with
    | true=>
      have hb:=Nat.eq_of_beq_eq_true hb
      have hly:=lt_pw_tl hy
      rw [hb] at hly
      have ht:=tl_le (dg 1 (nv q.xs%nv q.ys))
      rw [dg_length] at ht
      simp only [cond_true]
      rw [nv_dg 1 _ m0 (by omega)]
      exact ⟨⟨hy,dg_dig _ _,ly,by show tl (dg 1 _)≤_; omega⟩,m1,m0,hg⟩
    | false=>
      have h1:pw (tl q.xs)≤pw (tl q.xs+1):=pw_mono (by omega)
      simp only [cond_false]
      have ht:tl (dg (tl q.xs+1) (nv q.xs%nv q.ys))≤tl q.ys:=by
        have:=tl_le_of (xs:=q.ys) (ys:=dg (tl q.xs+1) (nv q.xs%nv q.ys)) hy (dg_dig _ _) (by rw [nv_dg _ _ m0 (by omega)]; omega)
        exact this
      rw [nv_dg _ _ m0 (by omega)]
      exact ⟨⟨hy,dg_dig _ _,ly,Nat.le_trans ht ly⟩,m1,m0,hg⟩
theorem GQ.go_ok:∀(k:Nat) (q:GQ),q.Ok→nv q.ys<k→(GQ.go k q).Ok∧(GQ.go k q).more=false∧Int.gcd (nv (GQ.go k q).xs) (nv (GQ.go k q).ys)=Int.gcd (nv q.xs) (nv q.ys)
  |0,q,h,hk=>by have:=nv_nonneg h.y; omega
  | k +1,q,h,hk=>by
    unfold GQ.go
    cases hm:q.more with
    |false=>exact ⟨h,hm,rfl⟩
    | true=>
      obtain ⟨h1,h2,_,h3⟩:=h.next hm
      obtain ⟨r1,r2,r3⟩:=GQ.go_ok k q.next h1 (by omega)
      simp only [cond_true]
      exact ⟨r1,r2,r3.trans h3⟩
abbrev GQ.st (q:GQ) (zb:Bool) (zs:ByteArray):St:=gcd0.st zb zs (tl q.xs) q.cx (tl q.ys) q.cy q.xs q.ys
def gcd0.ok (lx ly:Nat) (xs ys:List Int):Bool:=digB xs&&(digB ys&&(Nat.beq lx (tl xs)&&(Nat.beq ly (tl ys)&&(Nat.ble lx 2147483648&&Nat.ble ly 2147483648))))
noncomputable def gcd0.lt (zb:Bool) (zs:ByteArray) (lx cx ly cy:Nat) (xs ys:List Int):LT:= .got (gcd0.ok lx ly xs ys) (.exit 0) (GQ.st (gq ⟨xs,cx,ys,cy⟩) zb zs)
theorem gcd0.go (zb:Bool) (zs:ByteArray):∀(k:Nat) (q:GQ),q.Ok→nv q.ys<k→Lq Tryz.prog (fun n=>n=0) (loopCode Tryz.f185 0) (q.st zb zs) (.exit 0) ((GQ.go k q).st zb zs)
  |0,q,h,hk=>by have:=nv_nonneg h.y; omega
  | k + 1,q,h,hk=>by
    unfold GQ.go
    cases hm:q.more with
    | false=>
      have hm':¬2<tl q.ys∧(2<tl q.xs→¬0<tl q.ys):=by simpa [GQ.more] using hm
      by_cases h1:2<tl q.xs
      · exact gcd0.stop2 _ _ _ _ _ _ _ _ (dfalse (by omega)) (dtrue (by omega)) (dfalse (by have:=hm'.2 h1; omega))
      · exact gcd0.stop3 _ _ _ _ _ _ _ _ (dfalse (by omega)) (dfalse (by omega))
    | true=>
      obtain ⟨n1,n2,n3,_⟩:=h.next hm
      have ih:=gcd0.go zb zs k q.next n1 (by omega)
      obtain ⟨hx,hy,lx,ly⟩:=h
      have hm':2<tl q.ys∨2<tl q.xs∧0<tl q.ys:=by simpa [GQ.more] using hm
      have hp:0<nv q.ys:=(pos_tl hy).1 (by omega)
      have ex:=nv_tl hx
      have ey:=nv_tl hy
      have ox:=natOk_tl hx lx
      have oy:=natOk_tl hy ly
      have hcm:=cmp_tl hx hy
      simp only [cond_true]
      unfold GQ.next at ih ⊢
      cases hc:decide (nv q.xs<nv q.ys) with
      | true=>
        have hc':=of_decide_eq_true hc
        rw [hc] at ih
        simp only [cond_true] at ih ⊢
        have key:(natOk 0 (tl q.xs) q.xs&&natOk 0 (tl q.ys) q.ys&&decide (cmpI (tl q.xs) (tl q.ys) (nv (seg q.xs 0 (tl q.xs))) (nv (seg q.ys 0 (tl q.ys)))<0))=true:=by
          rw [ex,ey,ox,oy,Bool.and_self,Bool.true_and]; exact dtrue (by omega)
        by_cases h1:2<tl q.ys
        · exact gcd0.step0 _ _ _ _ _ _ _ _ (dtrue (by omega)) key ih
        · exact gcd0.step1 _ _ _ _ _ _ _ _ (dfalse (by omega)) (dtrue (by omega)) (dtrue (by omega)) key ih
      | false=>
        have hc':=of_decide_eq_false hc
        rw [hc] at ih
        simp only [cond_false] at ih ⊢
        cases hb:Nat.beq (tl q.ys) 1 with
        | true=>
          rw [hb] at ih
          simp only [cond_true] at ih ⊢
          have key:(natOk 0 (tl q.xs) q.xs&&(natOk 0 (tl q.ys) q.ys&&((tl q.ys).beq 1&&(decide (0≤cmpI (tl q.xs) (tl q.ys) (nv (seg q.xs 0 (tl q.xs))) (nv (seg q.ys 0 (tl q.ys))))&&decide (0<nv (seg q.ys 0 (tl q.ys)))))))=true:=by
            rw [ex,ey,ox,oy,Bool.true_and,Bool.true_and,hb,Bool.true_and]; exact dtrue2 (by omega) hp
          by_cases h1:2<tl q.ys
          · exact gcd1.step0 _ _ _ _ _ _ _ _ (dtrue (by omega)) key (by rw [ex,ey]; exact ih)
          · exact gcd1.step1 _ _ _ _ _ _ _ _ (dfalse (by omega)) (dtrue (by omega)) (dtrue (by omega)) key (by rw [ex,ey]; exact ih)
        | false=>
          rw [hb] at ih
          simp only [cond_false] at ih ⊢
          have hb':tl q.ys≠1:=fun e=>by rw [e] at hb; cases hb
          obtain ⟨t1,t2⟩:=top_of hy hp
          have hle:=tl_le_of hx hy (show nv q.ys≤nv q.xs by omega)
          have key:(natOk 0 (tl q.xs) q.xs&&(natOk 0 (tl q.ys) q.ys&&(Nat.ble 2 (tl q.ys)&&((tl q.ys).ble (tl q.xs)&&((tl q.xs).ble 4294967295&&(decide (0≤cmpI (tl q.xs) (tl q.ys) (nv (seg q.xs 0 (tl q.xs))) (nv (seg q.ys 0 (tl q.ys))))&&decide (0<q.ys.getD (0+(tl q.ys-1)) 0)))))))=true:=by
            rw [ex,ey,ox,oy,Bool.true_and,Bool.true_and,Nat.ble_eq_true_of_le (show 2≤tl q.ys by omega),Nat.ble_eq_true_of_le hle,Nat.ble_eq_true_of_le (show tl q.xs≤4294967295 by omega),Bool.true_and,Bool.true_and,Bool.true_and]
            exact dtrue2 (by omega) t2
          by_cases h1:2<tl q.ys
          · exact gcd2.step0 _ _ _ _ _ _ _ _ (dtrue (by omega)) key (by rw [ex,ey]; exact ih)
          · exact gcd2.step1 _ _ _ _ _ _ _ _ (dfalse (by omega)) (dtrue (by omega)) (dtrue (by omega)) key (by rw [ex,ey]; exact ih)
theorem gcd0.lp (zb:Bool) (zs:ByteArray) (lx cx ly cy:Nat) (xs ys:List Int) {x:X} {S':St} (h:(gcd0.lt zb zs lx cx ly cy xs ys).at=some (x,S')):Lq Tryz.prog (fun n=>n=0) (loopCode Tryz.f185 0) (gcd0.st zb zs lx cx ly cy xs ys) x S':=by
  obtain ⟨h1,rfl,rfl⟩:=got_at h
  simp only [gcd0.ok,Bool.and_eq_true,Nat.ble_eq,digB_iff] at h1
  obtain ⟨hx,hy,e1,e2,h5,h6⟩:=h1
  obtain rfl:=Nat.eq_of_beq_eq_true e1
  obtain rfl:=Nat.eq_of_beq_eq_true e2
  rw [gq_eq]
  have hn:=nv_nonneg hy
  exact gcd0.go zb zs ((nv ys).toNat+1) ⟨xs,cx,ys,cy⟩ ⟨hx,hy,h5,h6⟩ (by show nv ys<_; omega)
noncomputable def gcd0.t:LSpec:=fun S=>match RX.nth S.tmps 4,RX.nth S.tmps 5,RX.nth S.tmps 6,RX.look S.heap 208,RX.look S.heap 256,RX.look S.heap 32,S.nxt with
  | .pointer (some ⟨32,0,none⟩),.slice (some ⟨208,0,none⟩) lx cx,.slice (some ⟨256,0,none⟩) ly cy,some (.is .u32 xs 64),some (.is .u32 ys 64),some (.cs [Value.bool zb,Value.string zs] 23),304=>bif Nat.beq S.tmps.length 65 then some (gcd0.lt zb zs lx cx ly cy xs ys) else none
  |_,_,_,_,_,_,_=>none
theorem gcd0.lok:LOKn Tryz.prog (fun n=>n=0) (loopCode Tryz.f185 0) (gcd0.t):=by
  refine lok_q fun S lt x S' ht hat=> ?_
  unfold gcd0.t at ht
  split at ht
  · rename_i lx cx ly cy xs ys zb zs h4 h5 h6 g208 g256 g32 hnx
    cases hb:Nat.beq S.tmps.length 65 with
    |false=>rw [hb] at ht; cases ht
    | true=>
      rw [hb] at ht
      injection ht with ht
      subst ht
      have hb:=Nat.eq_of_beq_eq_true hb
      obtain ⟨T,H,_⟩:=S
      subst hnx
      exact .enter (fun h=>wk_of hb (.cons ⟨h4,bnth h h4⟩ (.cons ⟨h5,bnth h h5⟩ (.cons ⟨h6,bnth h h6⟩ .nil))) (.cons ⟨g208,bname h g208,rfl⟩ (.cons ⟨g256,bname h g256,rfl⟩ (.cons ⟨g32,bname h g32,rfl⟩ .nil)))) (gcd0.lp _ _ _ _ _ _ _ _ hat)
  · cases ht
def gce.ok (n m:Int):Bool:=decide (0≤n)&&decide (0≤m)
noncomputable def gce.lt (zb:Bool) (zs:ByteArray) (n m:Int) (nx:Nat):LT:= .got (gce.ok n m) (.exit 2) (gce.st zb zs (gI n m) 0 nx)
theorem gce.go {N:Nat→Prop} (zb:Bool) (zs:ByteArray) (nx:Nat):∀(k:Nat) (n m:Int),0≤n→0≤m→m<k→Lq Tryz.prog N (loopCode Tryz.f185 2) (gce.st zb zs n m nx) (.exit 2) (gce.st zb zs (gI n m) 0 nx)
  |0,n,m,h,h',hk=>by omega
  | k +1,n,m,h,h',hk=>by
    by_cases h0:m=0
    · subst h0
      have:=gce.stop1 (N:=N) zb zs n 0 nx rfl
      rw [gI_eq,Int.gcd_zero_right,Int.natAbs_of_nonneg h]
      exact this
    · have hr0:=Int.emod_nonneg n h0
      have hr1:=Int.emod_lt_of_pos n (show 0<m by omega)
      refine gce.step0 zb zs n m nx (bne_of h0) (bne_of h0) ?_
      have ih:=gce.go (N:=N) zb zs nx k m (n%m) h' hr0 (by omega)
      rw [Int.tmod_eq_emod_of_nonneg h]
      have hg:Int.gcd m (n%m)=Int.gcd n m:=by rw [Int.gcd_comm n]; exact gcd_mod _ _
      rw [gI_eq,hg,←gI_eq] at ih
      exact ih
theorem gce.lp {N:Nat→Prop} (zb:Bool) (zs:ByteArray) (n m:Int) (nx:Nat) {x:X} {S':St} (h:(gce.lt zb zs n m nx).at=some (x,S')):Lq Tryz.prog N (loopCode Tryz.f185 2) (gce.st zb zs n m nx) x S':=by
  obtain ⟨h1,rfl,rfl⟩:=got_at h
  simp only [gce.ok,Bool.and_eq_true,decide_eq_true_eq] at h1
  exact gce.go zb zs nx (m.toNat+1) n m h1.1 h1.2 (by omega)
noncomputable def gce.t:LSpec:=fun S=>match RX.nth S.tmps 4,RX.nth S.tmps 9,RX.nth S.tmps 10,RX.look S.heap 32 with
  | .pointer (some ⟨32,0,none⟩),.int .u64 n,.int .u64 m,some (.cs [Value.bool zb,Value.string zs] 23)=>bif Nat.beq S.tmps.length 65 then some (gce.lt zb zs n m S.nxt) else none
  |_,_,_,_=>none
theorem gce.lok {N:Nat→Prop} :LOKn Tryz.prog N (loopCode Tryz.f185 2) (gce.t):=by
  refine lok_q fun S lt x S' ht hat=> ?_
  unfold gce.t at ht
  split at ht
  · rename_i n m zb zs h4 h9 h10 g32
    cases hb:Nat.beq S.tmps.length 65 with
    |false=>rw [hb] at ht; cases ht
    | true=>
      rw [hb] at ht
      injection ht with ht
      subst ht
      have hb:=Nat.eq_of_beq_eq_true hb
      exact .enter (fun h=>wk_of hb (.cons ⟨h4,bnth h h4⟩ (.cons ⟨h9,bnth h h9⟩ (.cons ⟨h10,bnth h h10⟩ .nil))) (.cons ⟨g32,bname h g32,rfl⟩ .nil)) (gce.lp _ _ _ _ _ hat)
  · cases ht
end Go.Proofs.YtpejalpgficopaaGreatDoor.G
end
section
namespace Go.Proofs.YtpejalpgficopaaGreatDoor.G
open Go Go.Proofs RX
set_option linter.unusedVariables false
set_option linter.defProp false
set_option linter.unusedSimpArgs false
set_option maxRecDepth 100000 in
theorem rGcd.run (na:Bool) (sa:ByteArray) (nb:Bool) (sb:ByteArray):xfn Tryz.prog ⟨[(157,Valid.sp),(188,of.sp),(187,with.sp),(204,single.sp),(186,word.sp)],[],[]⟩ [(0,gcd0.t),(2,gce.t)] 10 Tryz.f185 [.agg ⟨[.bool na,.string sa]⟩,.agg ⟨[.bool nb,.string sb]⟩] []=
 bif !vld na sa then some ((Value.agg ⟨[Value.bool false,Value.string (⟨#[]⟩:ByteArray)]⟩,[])) else bif !vld nb sb then some ((Value.agg ⟨[Value.bool false,Value.string (⟨#[]⟩:ByteArray)]⟩,[])) else bif sa.size.ble 8589934592 then bif sb.size.ble 8589934592 then bif gcd0.ok (tl (dg (nd sa) (bv sa.data.toList))) (tl (dg (nd sb) (bv sb.data.toList))) (dg (nd sa) (bv sa.data.toList)) (dg (nd sb) (bv sb.data.toList)) then bif ((tl (gq {xs:=dg (nd sa) (bv sa.data.toList),cx:=nd sa,ys:=dg (nd sb) (bv sb.data.toList),cy:=nd sb}).ys:Nat):Int)==0 then bif natOk 0 (tl (gq {xs:=dg (nd sa) (bv sa.data.toList),cx:=nd sa,ys:=dg (nd sb) (bv sb.data.toList),cy:=nd sb}).xs) (gq {xs:=dg (nd sa) (bv sa.data.toList),cx:=nd sa,ys:=dg (nd sb) (bv sb.data.toList),cy:=nd sb}).xs then some ((Value.agg ⟨[Value.bool (false&& !nv (seg (gq {xs:=dg (nd sa) (bv sa.data.toList),cx:=nd sa,ys:=dg (nd sb) (bv sb.data.toList),cy:=nd sb}).xs 0 (tl (gq {xs:=dg (nd sa) (bv sa.data.toList),cx:=nd sa,ys:=dg (nd sb) (bv sb.data.toList),cy:=nd sb}).xs))==0),Value.string (str (enc (nv (seg (gq {xs:=dg (nd sa) (bv sa.data.toList),cx:=nd sa,ys:=dg (nd sb) (bv sb.data.toList),cy:=nd sb}).xs 0 (tl (gq {xs:=dg (nd sa) (bv sa.data.toList),cx:=nd sa,ys:=dg (nd sb) (bv sb.data.toList),cy:=nd sb}).xs)))))]⟩,[])) else none else bif natOk 0 (tl (gq {xs:=dg (nd sa) (bv sa.data.toList),cx:=nd sa,ys:=dg (nd sb) (bv sb.data.toList),cy:=nd sb}).xs) (gq {xs:=dg (nd sa) (bv sa.data.toList),cx:=nd sa,ys:=dg (nd sb) (bv sb.data.toList),cy:=nd sb}).xs&&(tl (gq {xs:=dg (nd sa) (bv sa.data.toList),cx:=nd sa,ys:=dg (nd sb) (bv sb.data.toList),cy:=nd sb}).xs).ble 2 then bif natOk 0 (tl (gq {xs:=dg (nd sa) (bv sa.data.toList),cx:=nd sa,ys:=dg (nd sb) (bv sb.data.toList),cy:=nd sb}).ys) (gq {xs:=dg (nd sa) (bv sa.data.toList),cx:=nd sa,ys:=dg (nd sb) (bv sb.data.toList),cy:=nd sb}).ys&&(tl (gq {xs:=dg (nd sa) (bv sa.data.toList),cx:=nd sa,ys:=dg (nd sb) (bv sb.data.toList),cy:=nd sb}).ys).ble 2 then bif gce.ok (nv (seg (gq {xs:=dg (nd sa) (bv sa.data.toList),cx:=nd sa,ys:=dg (nd sb) (bv sb.data.toList),cy:=nd sb}).xs 0 (tl (gq {xs:=dg (nd sa) (bv sa.data.toList),cx:=nd sa,ys:=dg (nd sb) (bv sb.data.toList),cy:=nd sb}).xs))) (nv (seg (gq {xs:=dg (nd sa) (bv sa.data.toList),cx:=nd sa,ys:=dg (nd sb) (bv sb.data.toList),cy:=nd sb}).ys 0 (tl (gq {xs:=dg (nd sa) (bv sa.data.toList),cx:=nd sa,ys:=dg (nd sb) (bv sb.data.toList),cy:=nd sb}).ys))) then bif decide (0≤gI (nv (seg (gq {xs:=dg (nd sa) (bv sa.data.toList),cx:=nd sa,ys:=dg (nd sb) (bv sb.data.toList),cy:=nd sb}).xs 0 (tl (gq {xs:=dg (nd sa) (bv sa.data.toList),cx:=nd sa,ys:=dg (nd sb) (bv sb.data.toList),cy:=nd sb}).xs))) (nv (seg (gq {xs:=dg (nd sa) (bv sa.data.toList),cx:=nd sa,ys:=dg (nd sb) (bv sb.data.toList),cy:=nd sb}).ys 0 (tl (gq {xs:=dg (nd sa) (bv sa.data.toList),cx:=nd sa,ys:=dg (nd sb) (bv sb.data.toList),cy:=nd sb}).ys))))&&decide (gI (nv (seg (gq {xs:=dg (nd sa) (bv sa.data.toList),cx:=nd sa,ys:=dg (nd sb) (bv sb.data.toList),cy:=nd sb}).xs 0 (tl (gq {xs:=dg (nd sa) (bv sa.data.toList),cx:=nd sa,ys:=dg (nd sb) (bv sb.data.toList),cy:=nd sb}).xs))) (nv (seg (gq {xs:=dg (nd sa) (bv sa.data.toList),cx:=nd sa,ys:=dg (nd sb) (bv sb.data.toList),cy:=nd sb}).ys 0 (tl (gq {xs:=dg (nd sa) (bv sa.data.toList),cx:=nd sa,ys:=dg (nd sb) (bv sb.data.toList),cy:=nd sb}).ys)))<18446744073709551616) then
 bif natOk 0 (tl (dg 2 (gI (nv (seg (gq {xs:=dg (nd sa) (bv sa.data.toList),cx:=nd sa,ys:=dg (nd sb) (bv sb.data.toList),cy:=nd sb}).xs 0 (tl (gq {xs:=dg (nd sa) (bv sa.data.toList),cx:=nd sa,ys:=dg (nd sb) (bv sb.data.toList),cy:=nd sb}).xs))) (nv (seg (gq {xs:=dg (nd sa) (bv sa.data.toList),cx:=nd sa,ys:=dg (nd sb) (bv sb.data.toList),cy:=nd sb}).ys 0 (tl (gq {xs:=dg (nd sa) (bv sa.data.toList),cx:=nd sa,ys:=dg (nd sb) (bv sb.data.toList),cy:=nd sb}).ys)))))) (dg 2 (gI (nv (seg (gq {xs:=dg (nd sa) (bv sa.data.toList),cx:=nd sa,ys:=dg (nd sb) (bv sb.data.toList),cy:=nd sb}).xs 0 (tl (gq {xs:=dg (nd sa) (bv sa.data.toList),cx:=nd sa,ys:=dg (nd sb) (bv sb.data.toList),cy:=nd sb}).xs))) (nv (seg (gq {xs:=dg (nd sa) (bv sa.data.toList),cx:=nd sa,ys:=dg (nd sb) (bv sb.data.toList),cy:=nd sb}).ys 0 (tl (gq {xs:=dg (nd sa) (bv sa.data.toList),cx:=nd sa,ys:=dg (nd sb) (bv sb.data.toList),cy:=nd sb}).ys))))) then some ((Value.agg ⟨[Value.bool (false&& !nv (seg (dg 2 (gI (nv (seg (gq {xs:=dg (nd sa) (bv sa.data.toList),cx:=nd sa,ys:=dg (nd sb) (bv sb.data.toList),cy:=nd sb}).xs 0 (tl (gq {xs:=dg (nd sa) (bv sa.data.toList),cx:=nd sa,ys:=dg (nd sb) (bv sb.data.toList),cy:=nd sb}).xs))) (nv (seg (gq {xs:=dg (nd sa) (bv sa.data.toList),cx:=nd sa,ys:=dg (nd sb) (bv sb.data.toList),cy:=nd sb}).ys 0 (tl (gq {xs:=dg (nd sa) (bv sa.data.toList),cx:=nd sa,ys:=dg (nd sb) (bv sb.data.toList),cy:=nd sb}).ys))))) 0 (tl (dg 2 (gI (nv (seg (gq {xs:=dg (nd sa) (bv sa.data.toList),cx:=nd sa,ys:=dg (nd sb) (bv sb.data.toList),cy:=nd sb}).xs 0 (tl (gq {xs:=dg (nd sa) (bv sa.data.toList),cx:=nd sa,ys:=dg (nd sb) (bv sb.data.toList),cy:=nd sb}).xs))) (nv (seg (gq {xs:=dg (nd sa) (bv sa.data.toList),cx:=nd sa,ys:=dg (nd sb) (bv sb.data.toList),cy:=nd sb}).ys 0 (tl (gq {xs:=dg (nd sa) (bv sa.data.toList),cx:=nd sa,ys:=dg (nd sb) (bv sb.data.toList),cy:=nd sb}).ys)))))))==0),Value.string (str (enc (nv (seg (dg 2 (gI (nv (seg (gq {xs:=dg (nd sa) (bv sa.data.toList),cx:=nd sa,ys:=dg (nd sb) (bv sb.data.toList),cy:=nd sb}).xs 0 (tl (gq {xs:=dg (nd sa) (bv sa.data.toList),cx:=nd sa,ys:=dg (nd sb) (bv sb.data.toList),cy:=nd sb}).xs))) (nv (seg (gq {xs:=dg (nd sa) (bv sa.data.toList),cx:=nd sa,ys:=dg (nd sb) (bv sb.data.toList),cy:=nd sb}).ys 0 (tl (gq {xs:=dg (nd sa) (bv sa.data.toList),cx:=nd sa,ys:=dg (nd sb) (bv sb.data.toList),cy:=nd sb}).ys))))) 0 (tl (dg 2 (gI (nv (seg (gq {xs:=dg (nd sa) (bv sa.data.toList),cx:=nd sa,ys:=dg (nd sb) (bv sb.data.toList),cy:=nd sb}).xs 0 (tl (gq {xs:=dg (nd sa) (bv sa.data.toList),cx:=nd sa,ys:=dg (nd sb) (bv sb.data.toList),cy:=nd sb}).xs))) (nv (seg (gq {xs:=dg (nd sa) (bv sa.data.toList),cx:=nd sa,ys:=dg (nd sb) (bv sb.data.toList),cy:=nd sb}).ys 0 (tl (gq {xs:=dg (nd sa) (bv sa.data.toList),cx:=nd sa,ys:=dg (nd sb) (bv sb.data.toList),cy:=nd sb}).ys))))))))))]⟩,[])) else none else none else none else none else none else none else none else none:=by kernel_rfl
def rGcd.run0:=fun na sa nb sb h0=>((rGcd.run na sa nb sb).ct h0)
def rGcd.run1:=fun na sa nb sb h0 h1=>(((rGcd.run na sa nb sb).cf h0).ct h1)
def rGcd.run2:=fun na sa nb sb h0 h1 h2 h3 h4 h5 h6=>((((((((rGcd.run na sa nb sb).cf h0).cf h1).ct h2).ct h3).ct h4).ct h5).ct h6)
def rGcd.run3:=fun na sa nb sb h0 h1 h2 h3 h4 h5 h6 h7 h8 h9 h10=>((((((((((((rGcd.run na sa nb sb).cf h0).cf h1).ct h2).ct h3).ct h4).cf h5).ct h6).ct h7).ct h8).ct h9).ct h10)
noncomputable def Gcd.sp:HSpec
  |[.agg ⟨[.bool na,.string sa]⟩,.agg ⟨[.bool nb,.string sb]⟩],[]=>some (szM sa&&szM sb,iI (bif vld na sa&&vld nb sb then gI (vl na sa) (vl nb sb) else 0),[])
  |_,_=>none
theorem gI_vl (na nb:Bool) (sa sb:ByteArray):gI (vl na sa) (vl nb sb)=((Int.gcd (bv sa.data.toList) (bv sb.data.toList):Nat):Int):=by
  rw [gI_eq]
  unfold vl
  cases na<;>cases nb<;>simp [Int.gcd_neg,Int.neg_gcd]
theorem Gcd.ok:SOK Tryz.prog 185 Gcd.sp:=by
  refine sok_of' (N:=fun n=>n=0) (E:=⟨[(157,Valid.sp),(188,of.sp),(187,with.sp),(204,single.sp),(186,word.sp)],[],[]⟩) (L:=[(0,gcd0.t),(2,gce.t)]) ⟨specs_cons Valid.ok (specs_cons of.ok (specs_cons with.ok (specs_cons bigint_single.ok (specs_cons word.ok specs_nil)))),inl_nil,mixed_ok,lps_nil⟩ 10 Tryz.func185 (by decide) rfl (body_loops rfl (loops_cons rfl gcd0.lok (loops_cons rfl gce.lok lsOk_nil))) fun vs bl v bl' h=> ?_
  unfold Gcd.sp at h
  split at h
  · rename_i na sa nb sb
    simp only [Option.some.injEq,Prod.mk.injEq,Bool.and_eq_true] at h
    obtain ⟨⟨h1,h2⟩,rfl,rfl⟩:=h
    refine ⟨⟨?_,by simp [okV],clo_spec 8 _ rfl,told_blk rfl⟩,rfl⟩
    cases va:vld na sa with
    |false=>exact (rGcd.run0 na sa nb sb (not_false' va)).trans (by simp only [Bool.false_and,cond_false]; rw [iI_zero])
    |true=>
    cases vb:vld nb sb with
    |false=>exact (rGcd.run1 na sa nb sb (not_true' va) (not_false' vb)).trans (by simp only [Bool.and_false,cond_false]; rw [iI_zero])
    |true=>
    have hsa:=Nat.le_of_ble_eq_true h1
    have hsb:=Nat.le_of_ble_eq_true h2
    have na_:nd sa≤1073741825:=by unfold nd; omega
    have nb_:nd sb≤1073741825:=by unfold nd; omega
    have a0:=bv_nonneg sa.data.toList
    have b0:=bv_nonneg sb.data.toList
    have a1:=bv_lt_nd sa
    have b1:=bv_lt_nd sb
    simp only [Bool.and_self,cond_true]
    rw [gI_vl]
    have n2:=rGcd.run2 na sa nb sb (not_true' va) (not_true' vb) (szM_ok h1) (szM_ok h2)
    have n3:=rGcd.run3 na sa nb sb (not_true' va) (not_true' vb) (szM_ok h1) (szM_ok h2)
    generalize bv sa.data.toList=A at*
    generalize bv sb.data.toList=B at*
    have ta:=tl_le (dg (nd sa) A)
    have tb:=tl_le (dg (nd sb) B)
    rw [dg_length] at ta tb
    have hk:gcd0.ok (tl (dg (nd sa) A)) (tl (dg (nd sb) B)) (dg (nd sa) A) (dg (nd sb) B)=true:=by
      simp only [gcd0.ok,Bool.and_eq_true,Nat.ble_eq,Nat.beq_eq,digB_iff]
      exact ⟨dg_dig _ _,dg_dig _ _,trivial,trivial,by omega,by omega⟩
    have hq:(⟨dg (nd sa) A,nd sa,dg (nd sb) B,nd sb⟩:GQ).Ok:=⟨dg_dig _ _,dg_dig _ _,by show tl (dg (nd sa) A)≤_; omega,by show tl (dg (nd sb) B)≤_; omega⟩
    have hr:=GQ.go_ok ((nv (dg (nd sb) B)).toNat+1) ⟨dg (nd sa) A,nd sa,dg (nd sb) B,nd sb⟩ hq (by have:=nv_nonneg (dg_dig (nd sb) B); show nv (dg (nd sb) B)<_; omega)
    rw [←gq_eq ⟨dg (nd sa) A,nd sa,dg (nd sb) B,nd sb⟩] at hr
    replace n2:=n2 hk
    replace n3:=n3 hk
    have eg:Int.gcd (nv (gq ⟨dg (nd sa) A,nd sa,dg (nd sb) B,nd sb⟩).xs) (nv (gq ⟨dg (nd sa) A,nd sa,dg (nd sb) B,nd sb⟩).ys)=Int.gcd A B:=by
      rw [hr.2.2]; show Int.gcd (nv (dg (nd sa) A)) (nv (dg (nd sb) B))=_
      rw [nv_dg _ _ a0 a1,nv_dg _ _ b0 b1]
    obtain ⟨⟨rx,ry,rlx,rly⟩,hm,_⟩:=hr
    generalize gq ⟨dg (nd sa) A,nd sa,dg (nd sb) B,nd sb⟩=r at*
    rw [nv_tl rx] at n2 n3
    rw [nv_tl ry] at n3
    have ox:=natOk_tl rx rlx
    have oy:=natOk_tl ry rly
    have x0:=nv_nonneg rx
    have y0:=nv_nonneg ry
    have hm':¬2<tl r.ys∧(2<tl r.xs→¬0<tl r.ys):=by simpa [GQ.more] using hm
    by_cases hz:tl r.ys=0
    · have hy:nv r.ys=0:=(tl_zero ry).1 hz
      refine (n2 (by rw [hz]; rfl) ox).trans ?_
      show some (iv false (nv r.xs),_)=_
      rw [iv_iI false x0,cond_false,←eg,hy,Int.gcd_zero_right,Int.natAbs_of_nonneg x0]
    · have hyp:0<nv r.ys:=(pos_tl ry).1 (by omega)
      have hlx:tl r.xs≤2:=by have:=hm'.2; omega
      have hly:tl r.ys≤2:=by omega
      have hg0:0≤gI (nv r.xs) (nv r.ys):=by rw [gI_eq]; omega
      have hg1:gI (nv r.xs) (nv r.ys)≤nv r.ys:=by rw [gI_eq]; exact Int.le_of_dvd hyp (Int.gcd_dvd_right _ _)
      have hlt:=lt_pw_tl ry
      have hpw:pw (tl r.ys)≤pw 2:=pw_mono hly
      have e2:pw 2=18446744073709551616:=by decide
      have hbz:(((tl r.ys:Nat):Int)==0)=false:=by rw [beq_eq_false_iff_ne]; omega
      have key:=n3 hbz (by rw [ox,Bool.true_and]; exact Nat.ble_eq_true_of_le hlx) (by rw [oy,Bool.true_and]; exact Nat.ble_eq_true_of_le hly) (dtrue2 x0 y0) (dtrue2 hg0 (by omega)) (okc _ (by decide))
      refine key.trans ?_
      show some (iv false (nv (seg (dg 2 (gI (nv r.xs) (nv r.ys))) 0 (tl (dg 2 (gI (nv r.xs) (nv r.ys)))))),_)=_
      rw [nvc hg0 (by omega),iv_iI false hg0,cond_false,gI_eq,eg]
  · cases h
end Go.Proofs.YtpejalpgficopaaGreatDoor.G
end
section
namespace Go.Proofs.YtpejalpgficopaaGreatDoor.G
open Go Go.Proofs RX
set_option linter.unusedVariables false
set_option linter.defProp false
set_option linter.unusedSimpArgs false
set_option maxRecDepth 100000 in
theorem rCmp.run (na:Bool) (sa:ByteArray) (nb:Bool) (sb:ByteArray):xfn Tryz.prog ⟨[(169,Sub.sp),(158,Sign.sp)],[],[]⟩ [] 10 Tryz.f196 [.agg ⟨[.bool na,.string sa]⟩,.agg ⟨[.bool nb,.string sb]⟩] []=
 bif szOk sa&&szOk sb then some ((Value.int IntKind.i64 (sgn (bif vld (decide ((bif vld na sa&&vld nb sb then vl na sa-vl nb sb else 0)<0)) (str (enc (((bif vld na sa&&vld nb sb then vl na sa-vl nb sb else 0).natAbs:Nat):Int))) then vl (decide ((bif vld na sa&&vld nb sb then vl na sa-vl nb sb else 0)<0)) (str (enc (((bif vld na sa&&vld nb sb then vl na sa-vl nb sb else 0).natAbs:Nat):Int))) else 0)),[])) else none:=by kernel_rfl
def rCmp.run0:=fun na sa nb sb h0=>((rCmp.run na sa nb sb).ct h0)
def Cmp.sp:HSpec
  |[.agg ⟨[.bool na,.string sa]⟩,.agg ⟨[.bool nb,.string sb]⟩],[]=>some (szOk sa&&szOk sb,.int .i64 (sgn (bif vld na sa&&vld nb sb then vl na sa-vl nb sb else 0)),[])
  |_,_=>none
theorem Cmp.ok:SOK Tryz.prog 196 Cmp.sp:=by
  refine sok_of (E:=⟨[(169,Sub.sp),(158,Sign.sp)],[],[]⟩) (L:=[]) ⟨specs_cons Sub.ok (specs_cons Sign.ok specs_nil),inl_nil,mixed_ok,lps_nil⟩ 10 Tryz.func196 (by decide) rfl no_loops fun vs bl v bl' h=> ?_
  unfold Cmp.sp at h
  split at h
  · rename_i na sa nb sb
    simp only [Option.some.injEq,Prod.mk.injEq] at h
    obtain ⟨h1,rfl,rfl⟩:=h
    refine ⟨(rCmp.run0 na sa nb sb h1).trans ?_,by simp [okV],clo_spec 8 _ rfl,told_blk rfl⟩
    rw [vld_iI,cond_true,vl_iI]
  · cases h
def GcdC.sp:HSpec
  |[.agg ⟨[.bool na,.string sa]⟩,.agg ⟨[.bool nb,.string sb]⟩],[]=>some (szM sa&&szM sb,iI (bif vld na sa&&vld nb sb then ((Int.gcd (vl na sa) (vl nb sb):Nat):Int) else 0),[])
  |_,_=>none
theorem GcdC.ok:SOK Tryz.prog 185 GcdC.sp:=by
  refine ⟨Gcd.ok.enter,fun vs bl v bl' hs=>Gcd.ok.run vs bl v bl' ?_⟩
  unfold GcdC.sp at hs
  split at hs
  · rw [←hs]
    show some _=some _
    rw [gI_eq]
  · cases hs
end Go.Proofs.YtpejalpgficopaaGreatDoor.G
end
section
namespace Go.Proofs.YtpejalpgficopaaGreatDoor.G
open Go Go.Proofs RX
set_option linter.unusedVariables false
def dI (z:Int):Bool×ByteArray:=(decide (z<0),str (enc (z.natAbs:Int)))
def bigint_Mul (n:Bool) (s:ByteArray) (m:Bool) (t:ByteArray):Bool×ByteArray:=dI (bif vld n s&&vld m t then vl n s*vl m t else 0)
def bigint_Mul.pre (n:Bool) (s:ByteArray) (m:Bool) (t:ByteArray):Bool:=szM s&&szM t
theorem bigint_Mul.ok:SOK Tryz.prog 163 (bigint_Mul.sp bigint_Mul bigint_Mul.pre):=by
  refine ⟨Mul.ok.enter,fun vs bl v bl' hs=>Mul.ok.run vs bl v bl' ?_⟩
  unfold bigint_Mul.sp at hs
  split at hs
  · rw [←hs]; rfl
  · cases hs
def bigint_Add (n:Bool) (s:ByteArray) (m:Bool) (t:ByteArray):Bool×ByteArray:=dI (bif vld n s&&vld m t then vl n s+vl m t else 0)
def bigint_Add.pre (n:Bool) (s:ByteArray) (m:Bool) (t:ByteArray):Bool:=szOk s&&szOk t
theorem bigint_Add.ok:SOK Tryz.prog 162 (bigint_Add.sp bigint_Add bigint_Add.pre):=by
  refine ⟨Add.ok.enter,fun vs bl v bl' hs=>Add.ok.run vs bl v bl' ?_⟩
  unfold bigint_Add.sp at hs
  split at hs
  · rw [←hs]; rfl
  · cases hs
def bigint_Sub (n:Bool) (s:ByteArray) (m:Bool) (t:ByteArray):Bool×ByteArray:=dI (bif vld n s&&vld m t then vl n s-vl m t else 0)
def bigint_Sub.pre (n:Bool) (s:ByteArray) (m:Bool) (t:ByteArray):Bool:=szOk s&&szOk t
theorem bigint_Sub.ok:SOK Tryz.prog 169 (bigint_Sub.sp bigint_Sub bigint_Sub.pre):=by
  refine ⟨Sub.ok.enter,fun vs bl v bl' hs=>Sub.ok.run vs bl v bl' ?_⟩
  unfold bigint_Sub.sp at hs
  split at hs
  · rw [←hs]; rfl
  · cases hs
def bigint_Gcd (n:Bool) (s:ByteArray) (m:Bool) (t:ByteArray):Bool×ByteArray:=dI (bif vld n s&&vld m t then ((Int.gcd (vl n s) (vl m t):Nat):Int) else 0)
def bigint_Gcd.pre (n:Bool) (s:ByteArray) (m:Bool) (t:ByteArray):Bool:=szM s&&szM t
theorem bigint_Gcd.ok:SOK Tryz.prog 185 (bigint_Gcd.sp bigint_Gcd bigint_Gcd.pre):=by
  refine ⟨GcdC.ok.enter,fun vs bl v bl' hs=>GcdC.ok.run vs bl v bl' ?_⟩
  unfold bigint_Gcd.sp at hs
  split at hs
  · rw [←hs]; rfl
  · cases hs
def bigint_Cmp (n:Bool) (s:ByteArray) (m:Bool) (t:ByteArray):Int:=sgn (bif vld n s&&vld m t then vl n s-vl m t else 0)
def bigint_Cmp.pre (n:Bool) (s:ByteArray) (m:Bool) (t:ByteArray):Bool:=szOk s&&szOk t
theorem bigint_Cmp.ok:SOK Tryz.prog 196 (bigint_Cmp.sp bigint_Cmp bigint_Cmp.pre):=by
  refine ⟨Cmp.ok.enter,fun vs bl v bl' hs=>Cmp.ok.run vs bl v bl' ?_⟩
  unfold bigint_Cmp.sp at hs
  split at hs
  · rw [←hs]; rfl
  · cases hs
def bigint_Of (n:Int):Bool×ByteArray:=dI n
def bigint_Of.pre (n:Int):Bool:=decide (-9223372036854775808≤n)&&decide (n≤9223372036854775807)
theorem bigint_Of.ok:SOK Tryz.prog 160 (bigint_Of.sp bigint_Of bigint_Of.pre):=by
  refine ⟨Of.ok.enter,fun vs bl v bl' hs=>Of.ok.run vs bl v bl' ?_⟩
  unfold bigint_Of.sp at hs
  split at hs
  · rw [←hs]; rfl
  · cases hs
def bigint_Valid (n:Bool) (s:ByteArray):Bool:=vld n s
theorem bigint_Valid.ok:SOK Tryz.prog 157 (bigint_Valid.sp bigint_Valid):=by
  refine ⟨Valid.ok.enter,fun vs bl v bl' hs=>Valid.ok.run vs bl v bl' ?_⟩
  unfold bigint_Valid.sp at hs
  split at hs
  · rw [←hs]; rfl
  · cases hs
def bigint_Sign (n:Bool) (s:ByteArray):Int:=sgn (bif vld n s then vl n s else 0)
theorem bigint_Sign.ok:SOK Tryz.prog 158 (bigint_Sign.sp bigint_Sign):=by
  refine ⟨Sign.ok.enter,fun vs bl v bl' hs=>Sign.ok.run vs bl v bl' ?_⟩
  unfold bigint_Sign.sp at hs
  split at hs
  · rw [←hs]; rfl
  · cases hs
def bigint_Neg (n:Bool) (s:ByteArray):Bool×ByteArray:=dI (bif vld n s then -vl n s else 0)
theorem bigint_Neg.ok:SOK Tryz.prog 193 (bigint_Neg.sp bigint_Neg):=by
  refine ⟨Neg.ok.enter,fun vs bl v bl' hs=>Neg.ok.run vs bl v bl' ?_⟩
  unfold bigint_Neg.sp at hs
  split at hs
  · rw [←hs]; rfl
  · cases hs
def dmI (n:Bool) (s:ByteArray) (m:Bool) (t:ByteArray):Int×Int×Int:=bif vld n s&&vld m t then (bif bv t.data.toList==0 then (0,0,10) else (fq (vl n s) (vl m t),fr (vl n s) (vl m t),0)) else (0,0,1)
def bigint_DivMod (n:Bool) (s:ByteArray) (m:Bool) (t:ByteArray):Bool×ByteArray×Bool×ByteArray×Int:=
  ((dI (dmI n s m t).1).1,(dI (dmI n s m t).1).2,(dI (dmI n s m t).2.1).1,(dI (dmI n s m t).2.1).2,(dmI n s m t).2.2)
def bigint_DivMod.pre (n:Bool) (s:ByteArray) (m:Bool) (t:ByteArray):Bool:=szM s&&szM t
theorem bigint_DivMod.ok:SOK Tryz.prog 198 (bigint_DivMod.sp bigint_DivMod bigint_DivMod.pre):=by
  refine ⟨DivMod.ok.enter,fun vs bl v bl' hs=>DivMod.ok.run vs bl v bl' ?_⟩
  unfold bigint_DivMod.sp at hs
  split at hs
  · rename_i n s m t
    rw [←hs]
    show some (_,dmV n s m t,_)=_
    unfold dmV bigint_DivMod bigint_DivMod.pre dmI
    cases vld n s&&vld m t with
    |false=>rfl
    | true=>
      simp only [cond_true]
      cases bv t.data.toList==0<;>rfl
  · cases hs
end Go.Proofs.YtpejalpgficopaaGreatDoor.G
end
