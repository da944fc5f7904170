/- A part of what the law's proof leans on. PACKED BY pack.py of this repo. -/
import Derived.Test.YtphlckkbihmlnaaGreatDoorK7
set_option linter.unusedVariables false
set_option linter.unusedSimpArgs false
set_option linter.unusedSectionVars false
set_option linter.defProp false
set_option maxRecDepth 100000
open Go.IntKind (i64 u64 u32)
section
namespace Go.Proofs.YtphlckkbihmlnaaGreatDoor.G
open Go Go.Proofs RX
theorem rDM0.run (na:Bool) (sa:ByteArray) (nb:Bool) (sb:ByteArray):xfn Tryz.prog ⟨[(96,Valid.sp),(121,of.sp),(120,with.sp),(132,div0.sp),(108,Sub.sp),(99,Of.sp),(101,Add.sp)],[],[]⟩ [] 10 Tryz.f139 [.agg ⟨[.bool na,.string sa]⟩,.agg ⟨[.bool nb,.string sb]⟩] []=
 let c0:=seg (dg (nd sa) (bv sa.data.toList)) 0 (tl (dg (nd sa) (bv sa.data.toList)))
 bif !vld na sa then some ((Value.tuple ⟨[Value.agg ⟨[Value.bool false,Value.string (⟨#[]⟩:ByteArray)]⟩,Value.agg ⟨[Value.bool false,Value.string (⟨#[]⟩:ByteArray)]⟩,Value.int i64 1]⟩,[])) else bif !vld nb sb then some ((Value.tuple ⟨[Value.agg ⟨[Value.bool false,Value.string (⟨#[]⟩:ByteArray)]⟩,Value.agg ⟨[Value.bool false,Value.string (⟨#[]⟩:ByteArray)]⟩,Value.int i64 1]⟩,[])) else bif sb.toList==(⟨#[]⟩:ByteArray).toList then some ((Value.tuple ⟨[Value.agg ⟨[Value.bool false,Value.string (⟨#[]⟩:ByteArray)]⟩,Value.agg ⟨[Value.bool false,Value.string (⟨#[]⟩:ByteArray)]⟩,Value.int i64 10]⟩,[])) else bif sa.size.ble 8589934592 then bif sb.size.ble 8589934592 then bif Du 0 (tl (dg (nd sa) (bv sa.data.toList))) (dg (nd sa) (bv sa.data.toList))&&Du 0 (tl (dg (nd sb) (bv sb.data.toList))) (dg (nd sb) (bv sb.data.toList))&&decide (cmpI (tl (dg (nd sa) (bv sa.data.toList))) (tl (dg (nd sb) (bv sb.data.toList))) (nv c0) (nv (seg (dg (nd sb) (bv sb.data.toList)) 0 (tl (dg (nd sb) (bv sb.data.toList)))))<0) then bif Du 0 (tl (dg (nd sa) (bv sa.data.toList))) (dg (nd sa) (bv sa.data.toList)) then bif !(str (enc (nv c0))).toList==(⟨#[]⟩:ByteArray).toList then bif !na==nb then bif szOk (str (enc (nv c0)))&&szOk sb then some ((Value.tuple ⟨[Value.agg ⟨[Value.bool (decide ((bif vld (!na==nb&& !(0:Int)==0) (str (enc 0))&&vld (decide ((1:Int)<0)) (str (enc ((Int.natAbs 1:Nat):Int))) then vl (!na==nb&& !(0:Int)==0) (str (enc 0))-vl (decide ((1:Int)<0)) (str (enc ((Int.natAbs 1:Nat):Int))) else 0)<0)),Value.string (str (enc (((bif vld (!na==nb&& !(0:Int)==0) (str (enc 0))&&vld (decide ((1:Int)<0)) (str (enc ((Int.natAbs 1:Nat):Int))) then vl (!na==nb&& !(0:Int)==0) (str (enc 0))-vl (decide ((1:Int)<0)) (str (enc ((Int.natAbs 1:Nat):Int))) else 0).natAbs:Nat):Int)))]⟩,Value.agg ⟨[Value.bool (decide ((bif vld (na&& !nv c0==0) (str (enc (nv c0)))&&vld nb sb then vl (na&& !nv c0==0) (str (enc (nv c0)))+vl nb sb else 0)<0)),Value.string (str (enc (((bif vld (na&& !nv c0==0) (str (enc (nv c0)))&&vld nb sb then vl (na&& !nv c0==0) (str (enc (nv c0)))+vl nb sb else 0).natAbs:Nat):Int)))]⟩,Value.int i64 0]⟩,[])) else none else some ((Value.tuple ⟨[Value.agg ⟨[Value.bool (!na==nb&& !(0:Int)==0),Value.string (str (enc 0))]⟩,Value.agg ⟨[Value.bool (na&& !nv c0==0),Value.string (str (enc (nv c0)))]⟩,Value.int i64 0]⟩,[])) else some ((Value.tuple ⟨[Value.agg ⟨[Value.bool (!na==nb&& !(0:Int)==0),Value.string (str (enc 0))]⟩,Value.agg ⟨[Value.bool (na&& !nv c0==0),Value.string (str (enc (nv c0)))]⟩,Value.int i64 0]⟩,[])) else none else none else none else none:=by kernel_rfl
def rDM0.run0:=fun na sa nb sb h0=>((rDM0.run na sa nb sb).ct h0)
def rDM0.run1:=fun na sa nb sb h0 h1=>(((rDM0.run na sa nb sb).cf h0).ct h1)
def rDM0.run2:=fun na sa nb sb h0 h1 h2=>((((rDM0.run na sa nb sb).cf h0).cf h1).ct h2)
def rDM0.run3:=fun na sa nb sb h0 h1 h2 h3 h4 h5 h6 h7 h8 h9=>(((((((((((rDM0.run na sa nb sb).cf h0).cf h1).cf h2).ct h3).ct h4).ct h5).ct h6).ct h7).ct h8).ct h9)
def rDM0.run4:=fun na sa nb sb h0 h1 h2 h3 h4 h5 h6 h7 h8=>((((((((((rDM0.run na sa nb sb).cf h0).cf h1).cf h2).ct h3).ct h4).ct h5).ct h6).ct h7).cf h8)
def rDM0.run5:=fun na sa nb sb h0 h1 h2 h3 h4 h5 h6 h7=>(((((((((rDM0.run na sa nb sb).cf h0).cf h1).cf h2).ct h3).ct h4).ct h5).ct h6).cf h7)
theorem rDM1.run (na:Bool) (sa:ByteArray) (nb:Bool) (sb:ByteArray):xfn Tryz.prog ⟨[(96,Valid.sp),(121,of.sp),(120,with.sp),(132,div1.sp),(108,Sub.sp),(99,Of.sp),(101,Add.sp)],[],[]⟩ [] 10 Tryz.f139 [.agg ⟨[.bool na,.string sa]⟩,.agg ⟨[.bool nb,.string sb]⟩] []=
 let c4:=seg (dg (nd sb) (bv sb.data.toList)) 0 (tl (dg (nd sb) (bv sb.data.toList)))
 let c0:=dg (tl (dg (nd sa) (bv sa.data.toList))) (nv (seg (dg (nd sa) (bv sa.data.toList)) 0 (tl (dg (nd sa) (bv sa.data.toList))))/nv c4)
 let c1:=dg 1 (nv (seg (dg (nd sa) (bv sa.data.toList)) 0 (tl (dg (nd sa) (bv sa.data.toList))))%nv c4)
 let c2:=str (enc (nv (seg c1 0 (tl c1))))
 let c3:=str (enc (nv (seg c0 0 (tl c0))))
 bif !vld na sa then some ((Value.tuple ⟨[Value.agg ⟨[Value.bool false,Value.string (⟨#[]⟩:ByteArray)]⟩,Value.agg ⟨[Value.bool false,Value.string (⟨#[]⟩:ByteArray)]⟩,Value.int i64 1]⟩,[])) else bif !vld nb sb then some ((Value.tuple ⟨[Value.agg ⟨[Value.bool false,Value.string (⟨#[]⟩:ByteArray)]⟩,Value.agg ⟨[Value.bool false,Value.string (⟨#[]⟩:ByteArray)]⟩,Value.int i64 1]⟩,[])) else bif sb.toList==(⟨#[]⟩:ByteArray).toList then some ((Value.tuple ⟨[Value.agg ⟨[Value.bool false,Value.string (⟨#[]⟩:ByteArray)]⟩,Value.agg ⟨[Value.bool false,Value.string (⟨#[]⟩:ByteArray)]⟩,Value.int i64 10]⟩,[])) else bif sa.size.ble 8589934592 then bif sb.size.ble 8589934592 then bif Du 0 (tl (dg (nd sa) (bv sa.data.toList))) (dg (nd sa) (bv sa.data.toList))&&(Du 0 (tl (dg (nd sb) (bv sb.data.toList))) (dg (nd sb) (bv sb.data.toList))&&((tl (dg (nd sb) (bv sb.data.toList))).beq 1&&(decide (0≤cmpI (tl (dg (nd sa) (bv sa.data.toList))) (tl (dg (nd sb) (bv sb.data.toList))) (nv (seg (dg (nd sa) (bv sa.data.toList)) 0 (tl (dg (nd sa) (bv sa.data.toList))))) (nv c4))&&decide (0<nv c4)))) then bif Du 0 (tl c0) c0 then bif Du 0 (tl c1) c1 then bif !c2.toList==(⟨#[]⟩:ByteArray).toList then bif !na==nb then bif szOk c3&&szOk (str (enc ((Int.natAbs 1:Nat):Int))) then bif szOk c2&&szOk sb then some ((Value.tuple ⟨[Value.agg ⟨[Value.bool (decide ((bif vld (!na==nb&& !nv (seg c0 0 (tl c0))==0) c3&&vld (decide ((1:Int)<0)) (str (enc ((Int.natAbs 1:Nat):Int))) then vl (!na==nb&& !nv (seg c0 0 (tl c0))==0) c3-vl (decide ((1:Int)<0)) (str (enc ((Int.natAbs 1:Nat):Int))) else 0)<0)),Value.string (str (enc (((bif vld (!na==nb&& !nv (seg c0 0 (tl c0))==0) c3&&vld (decide ((1:Int)<0)) (str (enc ((Int.natAbs 1:Nat):Int))) then vl (!na==nb&& !nv (seg c0 0 (tl c0))==0) c3-vl (decide ((1:Int)<0)) (str (enc ((Int.natAbs 1:Nat):Int))) else 0).natAbs:Nat):Int)))]⟩,Value.agg ⟨[Value.bool (decide ((bif vld (na&& !nv (seg c1 0 (tl c1))==0) c2&&vld nb sb then vl (na&& !nv (seg c1 0 (tl c1))==0) c2+vl nb sb else 0)<0)),Value.string (str (enc (((bif vld (na&& !nv (seg c1 0 (tl c1))==0) c2&&vld nb sb then vl (na&& !nv (seg c1 0 (tl c1))==0) c2+vl nb sb else 0).natAbs:Nat):Int)))]⟩,Value.int i64 0]⟩,[])) else none else none else some ((Value.tuple ⟨[Value.agg ⟨[Value.bool (!na==nb&& !nv (seg c0 0 (tl c0))==0),Value.string c3]⟩,Value.agg ⟨[Value.bool (na&& !nv (seg c1 0 (tl c1))==0),Value.string c2]⟩,Value.int i64 0]⟩,[])) else some ((Value.tuple ⟨[Value.agg ⟨[Value.bool (!na==nb&& !nv (seg c0 0 (tl c0))==0),Value.string c3]⟩,Value.agg ⟨[Value.bool (na&& !nv (seg c1 0 (tl c1))==0),Value.string c2]⟩,Value.int i64 0]⟩,[])) else none else none else none else none else none:=by kernel_rfl
def rDM1.run0:=fun na sa nb sb h0=>((rDM1.run na sa nb sb).ct h0)
def rDM1.run1:=fun na sa nb sb h0 h1=>(((rDM1.run na sa nb sb).cf h0).ct h1)
def rDM1.run2:=fun na sa nb sb h0 h1 h2=>((((rDM1.run na sa nb sb).cf h0).cf h1).ct h2)
def rDM1.run3:=fun na sa nb sb h0 h1 h2 h3 h4 h5 h6 h7 h8 h9 h10 h11=>(((((((((((((rDM1.run na sa nb sb).cf h0).cf h1).cf h2).ct h3).ct h4).ct h5).ct h6).ct h7).ct h8).ct h9).ct h10).ct h11)
def rDM1.run4:=fun na sa nb sb h0 h1 h2 h3 h4 h5 h6 h7 h8 h9=>(((((((((((rDM1.run na sa nb sb).cf h0).cf h1).cf h2).ct h3).ct h4).ct h5).ct h6).ct h7).ct h8).cf h9)
def rDM1.run5:=fun na sa nb sb h0 h1 h2 h3 h4 h5 h6 h7 h8=>((((((((((rDM1.run na sa nb sb).cf h0).cf h1).cf h2).ct h3).ct h4).ct h5).ct h6).ct h7).cf h8)
theorem rDM2.run (na:Bool) (sa:ByteArray) (nb:Bool) (sb:ByteArray):xfn Tryz.prog ⟨[(96,Valid.sp),(121,of.sp),(120,with.sp),(132,div2.sp),(108,Sub.sp),(99,Of.sp),(101,Add.sp)],[],[]⟩ [] 10 Tryz.f139 [.agg ⟨[.bool na,.string sa]⟩,.agg ⟨[.bool nb,.string sb]⟩] []=
 let c0:=dg (tl (dg (nd sa) (bv sa.data.toList))+1-tl (dg (nd sb) (bv sb.data.toList))) (nv (seg (dg (nd sa) (bv sa.data.toList)) 0 (tl (dg (nd sa) (bv sa.data.toList))))/nv (seg (dg (nd sb) (bv sb.data.toList)) 0 (tl (dg (nd sb) (bv sb.data.toList)))))
 let c1:=dg (tl (dg (nd sa) (bv sa.data.toList))+1) (nv (seg (dg (nd sa) (bv sa.data.toList)) 0 (tl (dg (nd sa) (bv sa.data.toList))))%nv (seg (dg (nd sb) (bv sb.data.toList)) 0 (tl (dg (nd sb) (bv sb.data.toList)))))
 let c2:=str (enc (nv (seg c1 0 (tl c1))))
 let c3:=str (enc (nv (seg c0 0 (tl c0))))
 bif !vld na sa then some ((Value.tuple ⟨[Value.agg ⟨[Value.bool false,Value.string (⟨#[]⟩:ByteArray)]⟩,Value.agg ⟨[Value.bool false,Value.string (⟨#[]⟩:ByteArray)]⟩,Value.int i64 1]⟩,[])) else bif !vld nb sb then some ((Value.tuple ⟨[Value.agg ⟨[Value.bool false,Value.string (⟨#[]⟩:ByteArray)]⟩,Value.agg ⟨[Value.bool false,Value.string (⟨#[]⟩:ByteArray)]⟩,Value.int i64 1]⟩,[])) else bif sb.toList==(⟨#[]⟩:ByteArray).toList then some ((Value.tuple ⟨[Value.agg ⟨[Value.bool false,Value.string (⟨#[]⟩:ByteArray)]⟩,Value.agg ⟨[Value.bool false,Value.string (⟨#[]⟩:ByteArray)]⟩,Value.int i64 10]⟩,[])) else bif sa.size.ble 8589934592 then bif sb.size.ble 8589934592 then bif Du 0 (tl (dg (nd sa) (bv sa.data.toList))) (dg (nd sa) (bv sa.data.toList))&&(Du 0 (tl (dg (nd sb) (bv sb.data.toList))) (dg (nd sb) (bv sb.data.toList))&&(Nat.ble 2 (tl (dg (nd sb) (bv sb.data.toList)))&&((tl (dg (nd sb) (bv sb.data.toList))).ble (tl (dg (nd sa) (bv sa.data.toList)))&&((tl (dg (nd sa) (bv sa.data.toList))).ble 4294967295&&(decide (0≤cmpI (tl (dg (nd sa) (bv sa.data.toList))) (tl (dg (nd sb) (bv sb.data.toList))) (nv (seg (dg (nd sa) (bv sa.data.toList)) 0 (tl (dg (nd sa) (bv sa.data.toList))))) (nv (seg (dg (nd sb) (bv sb.data.toList)) 0 (tl (dg (nd sb) (bv sb.data.toList))))))&&decide (0<(dg (nd sb) (bv sb.data.toList)).getD (0+(tl (dg (nd sb) (bv sb.data.toList))-1)) 0)))))) then bif Du 0 (tl c0) c0 then bif Du 0 (tl c1) c1 then bif !c2.toList==(⟨#[]⟩:ByteArray).toList then bif !na==nb then bif szOk c3&&szOk (str (enc ((Int.natAbs 1:Nat):Int))) then bif szOk c2&&szOk sb then some ((Value.tuple ⟨[Value.agg ⟨[Value.bool (decide ((bif vld (!na==nb&& !nv (seg c0 0 (tl c0))==0) c3&&vld (decide ((1:Int)<0)) (str (enc ((Int.natAbs 1:Nat):Int))) then vl (!na==nb&& !nv (seg c0 0 (tl c0))==0) c3-vl (decide ((1:Int)<0)) (str (enc ((Int.natAbs 1:Nat):Int))) else 0)<0)),Value.string (str (enc (((bif vld (!na==nb&& !nv (seg c0 0 (tl c0))==0) c3&&vld (decide ((1:Int)<0)) (str (enc ((Int.natAbs 1:Nat):Int))) then vl (!na==nb&& !nv (seg c0 0 (tl c0))==0) c3-vl (decide ((1:Int)<0)) (str (enc ((Int.natAbs 1:Nat):Int))) else 0).natAbs:Nat):Int)))]⟩,Value.agg ⟨[Value.bool (decide ((bif vld (na&& !nv (seg c1 0 (tl c1))==0) c2&&vld nb sb then vl (na&& !nv (seg c1 0 (tl c1))==0) c2+vl nb sb else 0)<0)),Value.string (str (enc (((bif vld (na&& !nv (seg c1 0 (tl c1))==0) c2&&vld nb sb then vl (na&& !nv (seg c1 0 (tl c1))==0) c2+vl nb sb else 0).natAbs:Nat):Int)))]⟩,Value.int i64 0]⟩,[])) else none else none else some ((Value.tuple ⟨[Value.agg ⟨[Value.bool (!na==nb&& !nv (seg c0 0 (tl c0))==0),Value.string c3]⟩,Value.agg ⟨[Value.bool (na&& !nv (seg c1 0 (tl c1))==0),Value.string c2]⟩,Value.int i64 0]⟩,[])) else some ((Value.tuple ⟨[Value.agg ⟨[Value.bool (!na==nb&& !nv (seg c0 0 (tl c0))==0),Value.string c3]⟩,Value.agg ⟨[Value.bool (na&& !nv (seg c1 0 (tl c1))==0),Value.string c2]⟩,Value.int i64 0]⟩,[])) else none else none else none else
 none else none:=by kernel_rfl
def rDM2.run0:=fun na sa nb sb h0=>((rDM2.run na sa nb sb).ct h0)
def rDM2.run1:=fun na sa nb sb h0 h1=>(((rDM2.run na sa nb sb).cf h0).ct h1)
def rDM2.run2:=fun na sa nb sb h0 h1 h2=>((((rDM2.run na sa nb sb).cf h0).cf h1).ct h2)
def rDM2.run3:=fun na sa nb sb h0 h1 h2 h3 h4 h5 h6 h7 h8 h9 h10 h11=>(((((((((((((rDM2.run na sa nb sb).cf h0).cf h1).cf h2).ct h3).ct h4).ct h5).ct h6).ct h7).ct h8).ct h9).ct h10).ct h11)
def rDM2.run4:=fun na sa nb sb h0 h1 h2 h3 h4 h5 h6 h7 h8 h9=>(((((((((((rDM2.run na sa nb sb).cf h0).cf h1).cf h2).ct h3).ct h4).ct h5).ct h6).ct h7).ct h8).cf h9)
def rDM2.run5:=fun na sa nb sb h0 h1 h2 h3 h4 h5 h6 h7 h8=>((((((((((rDM2.run na sa nb sb).cf h0).cf h1).cf h2).ct h3).ct h4).ct h5).ct h6).ct h7).cf h8)
theorem J6 {v:Int} {s:ByteArray} (h0:0≤v) (h:v≤bv s.data.toList) (hs:s.size≤4294967296):szOk (str (enc v))=true:=by
 have h1:=Jp s.data.toList
 have h2:s.data.toList.length=s.size:=rfl
 rw [h2] at h1
 have:=NI h0 (Int.lt_of_le_of_lt h h1)
 simp only [szOk,Nat.ble_eq,Kh]; omega
def dmV (na:Bool) (sa:ByteArray) (nb:Bool) (sb:ByteArray):Value:=
 bif vld na sa&&vld nb sb then (bif bv sb.data.toList==0 then .tuple ⟨[iI 0,iI 0,.int .i64 10]⟩ else .tuple ⟨[iI (fq (vl na sa) (vl nb sb)),iI (fr (vl na sa) (vl nb sb)),.int .i64 0]⟩) else .tuple ⟨[iI 0,iI 0,.int .i64 1]⟩
def dmC (j:Nat) (sa sb:ByteArray):Bool:=match j with
 |0=>decide (bv sa.data.toList<bv sb.data.toList)
 |1=>decide (bv sb.data.toList≤bv sa.data.toList)&&Nat.beq (tl (dg (nd sb) (bv sb.data.toList))) 1
 |_=>decide (bv sb.data.toList≤bv sa.data.toList)&&Nat.ble 2 (tl (dg (nd sb) (bv sb.data.toList)))
def dmS (j:Nat):HSpec
 |[.agg ⟨[.bool na,.string sa]⟩,.agg ⟨[.bool nb,.string sb]⟩],[]=>some (szM sa&&(szM sb&&(!(vld na sa&&vld nb sb&& !(bv sb.data.toList==0))||dmC j sa sb)),dmV na sa nb sb,[])
 |_,_=>none
def DivMod.sp:HSpec
 |[.agg ⟨[.bool na,.string sa]⟩,.agg ⟨[.bool nb,.string sb]⟩],[]=>some (szM sa&&szM sb,dmV na sa nb sb,[])
 |_,_=>none
theorem TR {na nb:Bool} {sa sb:ByteArray} {A B:Int} (hA:bv sa.data.toList=A) (hB:bv sb.data.toList=B) (a0:0≤A) (b0:0<B) (va:vld na sa=true) (vb:vld nb sb=true):
  dmV na sa nb sb= .tuple ⟨[iI (bif na==nb then A/B else (if A%B=0 then -(A/B) else -(A/B)-1)),iI (bif na==nb then (bif na then -(A%B) else A%B) else (if A%B=0 then 0 else (bif na then -(A%B) else A%B)+(bif nb then -B else B))),.int .i64 0]⟩:=by
 unfold dmV
 have hz:(bv sb.data.toList==0)=false:=by rw [beq_eq_false_iff_ne]; omega
 rw [va,vb,Bool.and_self,cond_true,hz,cond_false]
 unfold vl
 rw [hA,hB,Nt na nb a0 b0,Rt na nb a0 b0]
theorem DivMod0.ok:SOK Tryz.prog 139 (dmS 0):=by
 refine Cu (E:=⟨[(96,Valid.sp),(121,of.sp),(120,with.sp),(132,div0.sp),(108,Sub.sp),(99,Of.sp),(101,Add.sp)],[],[]⟩) (L:=[]) ⟨Aa Valid.ok (Aa of.ok (Aa with.ok (Aa div0.ok (Aa Sub.ok (Aa Of.ok (Aa Add.ok Ac)))))),Ai,Ad,Ah⟩ 10 Tryz.func139 (by decide) rfl Bv fun vs bl v bl' h=> ?_
 unfold dmS at h
 split at h
 ·rename_i na sa nb sb
  simp only [zS,zP,zB] at h
  obtain ⟨⟨hsa,hsb,hcc⟩,rfl,rfl⟩:=h
  refine ⟨?_,by simp [okV],by unfold dmV; cases vld na sa&&vld nb sb<;>simp only [cond_true,cond_false]<;>(try cases (bv sb.data.toList==0))<;>exact clo_spec 8 _ rfl,Ay rfl⟩
  cases va:vld na sa with
  |false=>exact (rDM0.run0 na sa nb sb (GU va)).trans (by unfold dmV; rw [va,Bool.false_and,cond_false]; rw [Gm])
  |true=>
  cases vb:vld nb sb with
  |false=>exact (rDM0.run1 na sa nb sb (Dp va) (GU vb)).trans (by unfold dmV; rw [va,vb,Bool.and_false,cond_false]; rw [Gm])
  |true=>
  have hsn:(sb.toList==(⟨#[]⟩:ByteArray).toList)=(bv sb.data.toList==0):=by
   have h1:=HY sb.data.toList
   have h2:=HI (Fd sb.data.toList)
   rw [JL (JY vb)] at h2
   rw [←h2]; exact h1
  cases hz:(bv sb.data.toList==0) with
  |true=>exact (rDM0.run2 na sa nb sb (Dp va) (Dp vb) (hsn.trans hz)).trans (by unfold dmV; rw [va,vb,hz,Bool.and_self,cond_true,cond_true]; rw [Gm])
  |false=>
  have hc:dmC 0 sa sb=true:=by simpa [va,vb,hz] using hcc
  have b0:0<bv sb.data.toList:=by
   have:=Fd sb.data.toList
   have:bv sb.data.toList≠0:=by simpa using hz
   omega
  have a0:=Fd sa.data.toList
  have a1:=H7 sa
  have b1:=H7 sb
  have hsa':=zL hsa
  have hsb':=zL hsb
  have na_:nd sa≤1073741825:=by unfold nd; omega
  have nb_:nd sb≤1073741825:=by unfold nd; omega
  generalize hA:bv sa.data.toList=A at*
  generalize hB:bv sb.data.toList=B at*
  have oA:=okc (n:=nd sa) A (by omega)
  have oB:=okc (n:=nd sb) B (by omega)
  have ta:=Hz (dg (nd sa) A)
  have tb:=Hz (dg (nd sb) B)
  rw [Di] at ta tb
  have q0:0≤A/B:=Int.ediv_nonneg a0 (Int.le_of_lt b0)
  have r0:=Int.emod_nonneg A (show B≠0 by omega)
  have hlt:A<B:=by simpa [dmC,hA,hB] using hc
  have eQ:A/B=0:=Int.ediv_eq_zero_of_lt a0 hlt
  have eR:A%B=A:=Int.emod_eq_of_lt a0 hlt
  have hcm:cmpI (tl (dg (nd sa) A)) (tl (dg (nd sb) B)) A B<0:=by
   have:=KD a0 a1 (Int.le_of_lt b0) b1
   omega
  have n3:=rDM0.run3 na sa nb sb (Dp va) (Dp vb) (hsn.trans hz)
  have n4:=rDM0.run4 na sa nb sb (Dp va) (Dp vb) (hsn.trans hz)
  have n5:=rDM0.run5 na sa nb sb (Dp va) (Dp vb) (hsn.trans hz)
  simp only [hA,hB,nvc a0 a1,nvc (Int.le_of_lt b0) b1,eQ,eR] at n3 n4 n5
  have y1:=Nat.ble_eq_true_of_le (show sa.size≤8589934592 by omega)
  have y2:=Nat.ble_eq_true_of_le (show sb.size≤8589934592 by omega)
  replace n3:=n3 y1 y2 (by rw [oA,oB,dtrue hcm]; rfl) oA
  replace n4:=n4 y1 y2 (by rw [oA,oB,dtrue hcm]; rfl) oA
  replace n5:=n5 y1 y2 (by rw [oA,oB,dtrue hcm]; rfl) oA
  simp only [Jb a0,LN (!(na==nb)) (Int.le_refl 0),Nb (!(na==nb)) (Int.le_refl 0),LN na a0,Nb na a0,JX,Lz,vb,Bool.and_self,cond_true] at n3 n4 n5
  rw [TR hA hB a0 b0 va vb]
  have vQ:(Value.agg ⟨[.bool (!(na==nb)&& !((0:Int)==0)),.string (str (enc (0:Int)))]⟩)=iI (bif !(na==nb) then -(0:Int) else (0:Int)):=IA (!(na==nb)) (Int.le_refl 0)
  have vR:(Value.agg ⟨[.bool (na&& !(A==0)),.string (str (enc A))]⟩)=iI (bif na then -A else A):=IA na a0
  have hvl:vl nb sb=bif nb then -B else B:=by unfold vl; rw [hB]
  by_cases hR:A%B=0
  ·have hRb:(A==0)=true:=by rw [beq_iff_eq]; omega
   refine (n5 (by rw [hRb]; rfl)).trans ?_
   rw [vQ,vR]
   have eR0:A=0:=by omega
   cases hN:na==nb
   ·rw [hN] at*
    simp only [cond_false,cond_true,Bool.not_false,if_pos hR]
    rw [eR0,show (bif na then -(0:Int) else 0)=0 by cases na<;>rfl] ; rw [Int.zero_ediv]
   ·rw [hN] at*
    simp only [cond_false,cond_true,zN] ; rw [eQ,eR]
  ·have hRb:(A==0)=false:=by rw [beq_eq_false_iff_ne]; omega
   cases hN:na==nb
   ·refine (n3 (by rw [hRb]; rfl) (by rw [hN]; rfl) (by rw [J6 (s:=sa) a0 (by omega) (by omega),JA hsb]; rfl)).trans ?_
    rw [hvl]
    show some (Value.tuple ⟨[iI ((bif !(na==nb) then -(0:Int) else (0:Int))-1),iI ((bif na then -A else A)+(bif nb then -B else B)),_]⟩,_)=_
    rw [hN]
    simp only [cond_false,cond_true,Bool.not_false,if_neg hR] ; rw [eQ,eR]
   ·refine (n4 (by rw [hRb]; rfl) (by rw [hN]; rfl)).trans ?_
    rw [vQ,vR]
    rw [hN]
    simp only [cond_false,cond_true,zN] ; rw [eQ,eR]
 ·cases h
theorem DivMod1.ok:SOK Tryz.prog 139 (dmS 1):=by
 refine Cu (E:=⟨[(96,Valid.sp),(121,of.sp),(120,with.sp),(132,div1.sp),(108,Sub.sp),(99,Of.sp),(101,Add.sp)],[],[]⟩) (L:=[]) ⟨Aa Valid.ok (Aa of.ok (Aa with.ok (Aa div1.ok (Aa Sub.ok (Aa Of.ok (Aa Add.ok Ac)))))),Ai,Ad,Ah⟩ 10 Tryz.func139 (by decide) rfl Bv fun vs bl v bl' h=> ?_
 unfold dmS at h
 split at h
 ·rename_i na sa nb sb
  simp only [zS,zP,zB] at h
  obtain ⟨⟨hsa,hsb,hcc⟩,rfl,rfl⟩:=h
  refine ⟨?_,by simp [okV],by unfold dmV; cases vld na sa&&vld nb sb<;>simp only [cond_true,cond_false]<;>(try cases (bv sb.data.toList==0))<;>exact clo_spec 8 _ rfl,Ay rfl⟩
  cases va:vld na sa with
  |false=>exact (rDM1.run0 na sa nb sb (GU va)).trans (by unfold dmV; rw [va,Bool.false_and,cond_false]; rw [Gm])
  |true=>
  cases vb:vld nb sb with
  |false=>exact (rDM1.run1 na sa nb sb (Dp va) (GU vb)).trans (by unfold dmV; rw [va,vb,Bool.and_false,cond_false]; rw [Gm])
  |true=>
  have hsn:(sb.toList==(⟨#[]⟩:ByteArray).toList)=(bv sb.data.toList==0):=by
   have h1:=HY sb.data.toList
   have h2:=HI (Fd sb.data.toList)
   rw [JL (JY vb)] at h2
   rw [←h2]; exact h1
  cases hz:(bv sb.data.toList==0) with
  |true=>exact (rDM1.run2 na sa nb sb (Dp va) (Dp vb) (hsn.trans hz)).trans (by unfold dmV; rw [va,vb,hz,Bool.and_self,cond_true,cond_true]; rw [Gm])
  |false=>
  have hc:dmC 1 sa sb=true:=by simpa [va,vb,hz] using hcc
  have b0:0<bv sb.data.toList:=by
   have:=Fd sb.data.toList
   have:bv sb.data.toList≠0:=by simpa using hz
   omega
  have a0:=Fd sa.data.toList
  have a1:=H7 sa
  have b1:=H7 sb
  have hsa':=zL hsa
  have hsb':=zL hsb
  have na_:nd sa≤1073741825:=by unfold nd; omega
  have nb_:nd sb≤1073741825:=by unfold nd; omega
  generalize hA:bv sa.data.toList=A at*
  generalize hB:bv sb.data.toList=B at*
  have oA:=okc (n:=nd sa) A (by omega)
  have oB:=okc (n:=nd sb) B (by omega)
  have ta:=Hz (dg (nd sa) A)
  have tb:=Hz (dg (nd sb) B)
  rw [Di] at ta tb
  have q0:0≤A/B:=Int.ediv_nonneg a0 (Int.le_of_lt b0)
  have r0:=Int.emod_nonneg A (show B≠0 by omega)
  obtain ⟨hle,h1B⟩:B≤A∧tl (dg (nd sb) B)=1:=by simpa [dmC,hA,hB] using hc
  have hBs:=Ii (Int.le_of_lt b0) b1
  have q1:A/B<pw (tl (dg (nd sa) A)):=Int.lt_of_le_of_lt (Int.ediv_le_self B a0) (Ii a0 a1)
  have r1:A%B<pw 1:=by rw [h1B] at hBs; have:=Int.emod_lt_of_pos A b0; omega
  have hcm:0≤cmpI (tl (dg (nd sa) A)) (tl (dg (nd sb) B)) A B:=(KD a0 a1 (Int.le_of_lt b0) b1).2 hle
  have n3:=rDM1.run3 na sa nb sb (Dp va) (Dp vb) (hsn.trans hz)
  have n4:=rDM1.run4 na sa nb sb (Dp va) (Dp vb) (hsn.trans hz)
  have n5:=rDM1.run5 na sa nb sb (Dp va) (Dp vb) (hsn.trans hz)
  simp only [hA,hB,nvc a0 a1,nvc (Int.le_of_lt b0) b1,nvc q0 q1,nvc r0 r1] at n3 n4 n5
  have y1:=Nat.ble_eq_true_of_le (show sa.size≤8589934592 by omega)
  have y2:=Nat.ble_eq_true_of_le (show sb.size≤8589934592 by omega)
  replace n3:=n3 y1 y2 (by rw [oA,oB,h1B,←h1B,dtrue hcm,dtrue b0,h1B]; rfl) (okc _ (by omega)) (okc _ (by omega))
  replace n4:=n4 y1 y2 (by rw [oA,oB,h1B,←h1B,dtrue hcm,dtrue b0,h1B]; rfl) (okc _ (by omega)) (okc _ (by omega))
  replace n5:=n5 y1 y2 (by rw [oA,oB,h1B,←h1B,dtrue hcm,dtrue b0,h1B]; rfl) (okc _ (by omega)) (okc _ (by omega))
  simp only [Jb r0,LN (!(na==nb)) (q0),Nb (!(na==nb)) (q0),LN na r0,Nb na r0,JX,Lz,vb,Bool.and_self,cond_true] at n3 n4 n5
  rw [TR hA hB a0 b0 va vb]
  have vQ:(Value.agg ⟨[.bool (!(na==nb)&& !((A/B)==0)),.string (str (enc (A/B)))]⟩)=iI (bif !(na==nb) then -(A/B) else (A/B)):=IA (!(na==nb)) (q0)
  have vR:(Value.agg ⟨[.bool (na&& !((A%B)==0)),.string (str (enc (A%B)))]⟩)=iI (bif na then -(A%B) else (A%B)):=IA na r0
  have hvl:vl nb sb=bif nb then -B else B:=by unfold vl; rw [hB]
  by_cases hR:A%B=0
  ·have hRb:((A%B)==0)=true:=by rw [beq_iff_eq]; omega
   refine (n5 (by rw [hRb]; rfl)).trans ?_
   rw [vQ,vR]
   have eR0:(A%B)=0:=by omega
   cases hN:na==nb
   ·rw [hN] at*
    simp only [cond_false,cond_true,Bool.not_false,if_pos hR]
    rw [eR0,show (bif na then -(0:Int) else 0)=0 by cases na<;>rfl]
   ·rw [hN] at*
    simp only [cond_false,cond_true,zN]
  ·have hRb:((A%B)==0)=false:=by rw [beq_eq_false_iff_ne]; omega
   cases hN:na==nb
   ·refine (n3 (by rw [hRb]; rfl) (by rw [hN]; rfl) (by rw [J6 (s:=sa) q0 (by rw [hA]; exact Int.ediv_le_self B a0) (by omega)]; rfl) (by rw [J6 (s:=sa) r0 (by rw [hA]; have:=Int.mul_ediv_add_emod A B; have:=Int.mul_nonneg (Int.le_of_lt b0) q0; omega) (by omega),JA hsb]; rfl)).trans ?_
    rw [hvl]
    show some (Value.tuple ⟨[iI ((bif !(na==nb) then -(A/B) else (A/B))-1),iI ((bif na then -(A%B) else (A%B))+(bif nb then -B else B)),_]⟩,_)=_
    rw [hN]
    simp only [cond_false,cond_true,Bool.not_false,if_neg hR]
   ·refine (n4 (by rw [hRb]; rfl) (by rw [hN]; rfl)).trans ?_
    rw [vQ,vR]
    rw [hN]
    simp only [cond_false,cond_true,zN]
 ·cases h
theorem DivMod2.ok:SOK Tryz.prog 139 (dmS 2):=by
 refine Cu (E:=⟨[(96,Valid.sp),(121,of.sp),(120,with.sp),(132,div2.sp),(108,Sub.sp),(99,Of.sp),(101,Add.sp)],[],[]⟩) (L:=[]) ⟨Aa Valid.ok (Aa of.ok (Aa with.ok (Aa div2.ok (Aa Sub.ok (Aa Of.ok (Aa Add.ok Ac)))))),Ai,Ad,Ah⟩ 10 Tryz.func139 (by decide) rfl Bv fun vs bl v bl' h=> ?_
 unfold dmS at h
 split at h
 ·rename_i na sa nb sb
  simp only [zS,zP,zB] at h
  obtain ⟨⟨hsa,hsb,hcc⟩,rfl,rfl⟩:=h
  refine ⟨?_,by simp [okV],by unfold dmV; cases vld na sa&&vld nb sb<;>simp only [cond_true,cond_false]<;>(try cases (bv sb.data.toList==0))<;>exact clo_spec 8 _ rfl,Ay rfl⟩
  cases va:vld na sa with
  |false=>exact (rDM2.run0 na sa nb sb (GU va)).trans (by unfold dmV; rw [va,Bool.false_and,cond_false]; rw [Gm])
  |true=>
  cases vb:vld nb sb with
  |false=>exact (rDM2.run1 na sa nb sb (Dp va) (GU vb)).trans (by unfold dmV; rw [va,vb,Bool.and_false,cond_false]; rw [Gm])
  |true=>
  have hsn:(sb.toList==(⟨#[]⟩:ByteArray).toList)=(bv sb.data.toList==0):=by
   have h1:=HY sb.data.toList
   have h2:=HI (Fd sb.data.toList)
   rw [JL (JY vb)] at h2
   rw [←h2]; exact h1
  cases hz:(bv sb.data.toList==0) with
  |true=>exact (rDM2.run2 na sa nb sb (Dp va) (Dp vb) (hsn.trans hz)).trans (by unfold dmV; rw [va,vb,hz,Bool.and_self,cond_true,cond_true]; rw [Gm])
  |false=>
  have hc:dmC 2 sa sb=true:=by simpa [va,vb,hz] using hcc
  have b0:0<bv sb.data.toList:=by
   have:=Fd sb.data.toList
   have:bv sb.data.toList≠0:=by simpa using hz
   omega
  have a0:=Fd sa.data.toList
  have a1:=H7 sa
  have b1:=H7 sb
  have hsa':=zL hsa
  have hsb':=zL hsb
  have na_:nd sa≤1073741825:=by unfold nd; omega
  have nb_:nd sb≤1073741825:=by unfold nd; omega
  generalize hA:bv sa.data.toList=A at*
  generalize hB:bv sb.data.toList=B at*
  have oA:=okc (n:=nd sa) A (by omega)
  have oB:=okc (n:=nd sb) B (by omega)
  have ta:=Hz (dg (nd sa) A)
  have tb:=Hz (dg (nd sb) B)
  rw [Di] at ta tb
  have q0:0≤A/B:=Int.ediv_nonneg a0 (Int.le_of_lt b0)
  have r0:=Int.emod_nonneg A (show B≠0 by omega)
  obtain ⟨hle,h2B⟩:B≤A∧2≤tl (dg (nd sb) B):=by simpa [dmC,hA,hB] using hc
  have hBs:=Ii (Int.le_of_lt b0) b1
  have hAs:=Ii a0 a1
  have hml:=QW a0 a1 (Int.le_of_lt b0) b1 hle
  obtain ⟨_,htop⟩:=Pj b0 b1
  have q1:A/B<pw (tl (dg (nd sa) A)+1-tl (dg (nd sb) B)):=by
   refine Int.ediv_lt_of_lt_mul b0 ?_
   have g1:pw (tl (dg (nd sb) B)-1)≤B:=SC (Int.le_of_lt b0) b1 (by omega)
   have g2:pw (tl (dg (nd sb) B)-1)*pw (tl (dg (nd sa) A)+1-tl (dg (nd sb) B))=pw (tl (dg (nd sa) A)):=by rw [←OE]; congr 1; omega
   have g3:pw (tl (dg (nd sb) B)-1)*pw (tl (dg (nd sa) A)+1-tl (dg (nd sb) B))≤B*pw (tl (dg (nd sa) A)+1-tl (dg (nd sb) B)):=Int.mul_le_mul_of_nonneg_right g1 (by have:=Gd (tl (dg (nd sa) A)+1-tl (dg (nd sb) B)); omega)
   rw [Int.mul_comm] at g3
   rw [Int.mul_comm] at g2
   have g4:=Int.mul_comm B (pw (tl (dg (nd sa) A)+1-tl (dg (nd sb) B)))
   omega
  have r1:A%B<pw (tl (dg (nd sa) A)+1):=by
   have:=Hh (show tl (dg (nd sa) A)≤tl (dg (nd sa) A)+1 by omega)
   have:=Int.emod_lt_of_pos A b0
   omega
  have hcm:0≤cmpI (tl (dg (nd sa) A)) (tl (dg (nd sb) B)) A B:=(KD a0 a1 (Int.le_of_lt b0) b1).2 hle
  have n3:=rDM2.run3 na sa nb sb (Dp va) (Dp vb) (hsn.trans hz)
  have n4:=rDM2.run4 na sa nb sb (Dp va) (Dp vb) (hsn.trans hz)
  have n5:=rDM2.run5 na sa nb sb (Dp va) (Dp vb) (hsn.trans hz)
  simp only [hA,hB,nvc a0 a1,nvc (Int.le_of_lt b0) b1,nvc q0 q1,nvc r0 r1] at n3 n4 n5
  have y1:=Nat.ble_eq_true_of_le (show sa.size≤8589934592 by omega)
  have y2:=Nat.ble_eq_true_of_le (show sb.size≤8589934592 by omega)
  replace n3:=n3 y1 y2 (by simp only [oA,oB,dtrue hcm,dtrue htop,Bool.and_true,Bool.true_and,zB,Nat.ble_eq]; omega) (okc _ (by omega)) (okc _ (by omega))
  replace n4:=n4 y1 y2 (by simp only [oA,oB,dtrue hcm,dtrue htop,Bool.and_true,Bool.true_and,zB,Nat.ble_eq]; omega) (okc _ (by omega)) (okc _ (by omega))
  replace n5:=n5 y1 y2 (by simp only [oA,oB,dtrue hcm,dtrue htop,Bool.and_true,Bool.true_and,zB,Nat.ble_eq]; omega) (okc _ (by omega)) (okc _ (by omega))
  simp only [Jb r0,LN (!(na==nb)) (q0),Nb (!(na==nb)) (q0),LN na r0,Nb na r0,JX,Lz,vb,Bool.and_self,cond_true] at n3 n4 n5
  rw [TR hA hB a0 b0 va vb]
  have vQ:(Value.agg ⟨[.bool (!(na==nb)&& !((A/B)==0)),.string (str (enc (A/B)))]⟩)=iI (bif !(na==nb) then -(A/B) else (A/B)):=IA (!(na==nb)) (q0)
  have vR:(Value.agg ⟨[.bool (na&& !((A%B)==0)),.string (str (enc (A%B)))]⟩)=iI (bif na then -(A%B) else (A%B)):=IA na r0
  have hvl:vl nb sb=bif nb then -B else B:=by unfold vl; rw [hB]
  by_cases hR:A%B=0
  ·have hRb:((A%B)==0)=true:=by rw [beq_iff_eq]; omega
   refine (n5 (by rw [hRb]; rfl)).trans ?_
   rw [vQ,vR]
   have eR0:(A%B)=0:=by omega
   cases hN:na==nb
   ·rw [hN] at*
    simp only [cond_false,cond_true,Bool.not_false,if_pos hR]
    rw [eR0,show (bif na then -(0:Int) else 0)=0 by cases na<;>rfl]
   ·rw [hN] at*
    simp only [cond_false,cond_true,zN]
  ·have hRb:((A%B)==0)=false:=by rw [beq_eq_false_iff_ne]; omega
   cases hN:na==nb
   ·refine (n3 (by rw [hRb]; rfl) (by rw [hN]; rfl) (by rw [J6 (s:=sa) q0 (by rw [hA]; exact Int.ediv_le_self B a0) (by omega)]; rfl) (by rw [J6 (s:=sa) r0 (by rw [hA]; have:=Int.mul_ediv_add_emod A B; have:=Int.mul_nonneg (Int.le_of_lt b0) q0; omega) (by omega),JA hsb]; rfl)).trans ?_
    rw [hvl]
    show some (Value.tuple ⟨[iI ((bif !(na==nb) then -(A/B) else (A/B))-1),iI ((bif na then -(A%B) else (A%B))+(bif nb then -B else B)),_]⟩,_)=_
    rw [hN]
    simp only [cond_false,cond_true,Bool.not_false,if_neg hR]
   ·refine (n4 (by rw [hRb]; rfl) (by rw [hN]; rfl)).trans ?_
    rw [vQ,vR]
    rw [hN]
    simp only [cond_false,cond_true,zN]
 ·cases h
theorem DivMod.ok:SOK Tryz.prog 139 DivMod.sp:=by
 refine SK (s1:=dmS 0) (s2:=fun vs bl=>match vs,bl with|[.agg ⟨[.bool na,.string sa]⟩,.agg ⟨[.bool nb,.string sb]⟩],[]=>some (szM sa&&(szM sb&&(!(vld na sa&&vld nb sb&& !(bv sb.data.toList==0))||(dmC 1 sa sb||dmC 2 sa sb))),dmV na sa nb sb,[])|_,_=>none) DivMod0.ok (SK (s1:=dmS 1) (s2:=dmS 2) DivMod1.ok DivMod2.ok ?_) ?_
 ·intro vs bl v bl' h
  split at h
  ·rename_i na sa nb sb
   simp only [zS,zP,zB,Bool.or_eq_true] at h
   obtain ⟨⟨h1,h2,h3⟩,rfl,rfl⟩:=h
   unfold dmS
   simp only [zS,zP,zB,Bool.or_eq_true]
   rcases h3 with h3|h3|h3
   ·exact .inl ⟨⟨h1,h2,.inl h3⟩,trivial⟩
   ·exact .inl ⟨⟨h1,h2,.inr h3⟩,trivial⟩
   ·exact .inr ⟨⟨h1,h2,.inr h3⟩,trivial⟩
  ·cases h
 ·intro vs bl v bl' h
  unfold DivMod.sp at h
  split at h
  ·rename_i na sa nb sb
   simp only [zS,zP,zB] at h
   obtain ⟨⟨h1,h2⟩,rfl,rfl⟩:=h
   unfold dmS
   simp only [zS,zP,zB,Bool.or_eq_true]
   cases hz:(vld na sa&&vld nb sb&& !(bv sb.data.toList==0)) with
   |false=>exact .inl ⟨⟨h1,h2,.inl rfl⟩,trivial⟩
   | true=>
    by_cases hlt:bv sa.data.toList<bv sb.data.toList
    ·exact .inl ⟨⟨h1,h2,.inr (dtrue hlt)⟩,trivial⟩
    ·refine .inr ⟨⟨h1,h2,.inr ?_⟩,trivial⟩
     have b0:0<bv sb.data.toList:=by
      have h5:=Fd sb.data.toList
      simp only [zB,Bool.not_eq_true',beq_eq_false_iff_ne] at hz
      omega
     obtain ⟨ht,_⟩:=Pj b0 (H7 sb)
     by_cases h1B:tl (dg (nd sb) (bv sb.data.toList))=1
     ·refine .inl ?_
      simp only [dmC,zB,zD,Nat.beq_eq]; omega
     ·refine .inr ?_
      simp only [dmC,zB,zD,Nat.ble_eq]; omega
  ·cases h
section
variable {N:Nat→Prop} {xe:X} {Se:St} (zb:Bool) (zs:ByteArray) (lx cx ly cy:Nat) (xs ys:List Int)
abbrev gcd0.st:St:=⟨gbuild [(4,.pointer (some ⟨32,0,none⟩)),(5,.slice (some ⟨208,0,none⟩) lx cx),(6,.slice (some ⟨256,0,none⟩) ly cy)] 0 65,[(208,.is .u32 xs 144),(256,.is .u32 ys 144),(32,.cs [Value.bool zb,Value.string zs] 24)],304⟩
theorem gcd0.rnd:rd Tryz.prog ⟨[(132,div0.sp)],[],[]⟩ [] 5 (Ag Tryz.f118 0) (gcd0.st zb zs lx cx ly cy xs ys) 65 [4,5,6] [208,256,32]=
 bif decide (((ly:Nat):Int)>2) then bif Du 0 lx xs&&Du 0 ly ys&&decide (cmpI lx ly (nv (seg xs 0 lx)) (nv (seg ys 0 ly))<0) then some ((X.normal,[Value.pointer (some {block:=32,off:=0}),Value.slice (some {block:=256,off:=0}) ly cy,Value.slice (some {block:=208,off:=0}) lx cx],[some (Blk.is u32 xs 144),some (Blk.is u32 ys 144),some (Blk.cs [Value.bool zb,Value.string zs] 24)])) else none else bif decide (((lx:Nat):Int)>2) then bif decide (((ly:Nat):Int)>0) then bif Du 0 lx xs&&Du 0 ly ys&&decide (cmpI lx ly (nv (seg xs 0 lx)) (nv (seg ys 0 ly))<0) then some ((X.normal,[Value.pointer (some {block:=32,off:=0}),Value.slice (some {block:=256,off:=0}) ly cy,Value.slice (some {block:=208,off:=0}) lx cx],[some (Blk.is u32 xs 144),some (Blk.is u32 ys 144),some (Blk.cs [Value.bool zb,Value.string zs] 24)])) else none else some ((X.exit 0,[Value.pointer (some {block:=32,off:=0}),Value.slice (some {block:=208,off:=0}) lx cx,Value.slice (some {block:=256,off:=0}) ly cy],[some (Blk.is u32 xs 144),some (Blk.is u32 ys 144),some (Blk.cs [Value.bool zb,Value.string zs] 24)])) else some ((X.exit 0,[Value.pointer (some {block:=32,off:=0}),Value.slice (some {block:=208,off:=0}) lx cx,Value.slice (some {block:=256,off:=0}) ly cy],[some (Blk.is u32 xs 144),some (Blk.is u32 ys 144),some (Blk.cs [Value.bool zb,Value.string zs] 24)])):=by kernel_rfl
def gcd0.step0:=fun h0 h1 (ih:Lq Tryz.prog (fun n=>n=0) (Ag Tryz.f118 0) (gcd0.st zb zs ly cy lx cx ys xs) xe (Se))=>Lq.step (S2:=gcd0.st zb zs ly cy lx cx ys xs) (f:=5) ⟨Aa div0.ok Ac,Ai,Ad,Ah⟩ Be (((gcd0.rnd zb zs lx cx ly cy xs ys).ct h0).ct h1) (fun h=>M4 (ρ:=mp [(208,256),(256,208)]) (.cons ⟨⟨_,rfl,(ruP rfl)⟩,(bptr (zL rfl))⟩ (.cons ⟨⟨_,rfl,(ruS rfl)⟩,(bslice (zL rfl))⟩ (.cons ⟨⟨_,rfl,(ruS rfl)⟩,(bslice (zL rfl))⟩ .nil))) (.cons ⟨rfl,(zL rfl),rfl⟩ (.cons ⟨rfl,(zL rfl),rfl⟩ (.cons ⟨rfl,(zL rfl),rfl⟩ .nil))) rfl) ih
def gcd0.step1:=fun h0 h1 h2 h3 (ih:Lq Tryz.prog (fun n=>n=0) (Ag Tryz.f118 0) (gcd0.st zb zs ly cy lx cx ys xs) xe (Se))=>Lq.step (S2:=gcd0.st zb zs ly cy lx cx ys xs) (f:=5) ⟨Aa div0.ok Ac,Ai,Ad,Ah⟩ Be (((((gcd0.rnd zb zs lx cx ly cy xs ys).cf h0).ct h1).ct h2).ct h3) (fun h=>M4 (ρ:=mp [(208,256),(256,208)]) (.cons ⟨⟨_,rfl,(ruP rfl)⟩,(bptr (zL rfl))⟩ (.cons ⟨⟨_,rfl,(ruS rfl)⟩,(bslice (zL rfl))⟩ (.cons ⟨⟨_,rfl,(ruS rfl)⟩,(bslice (zL rfl))⟩ .nil))) (.cons ⟨rfl,(zL rfl),rfl⟩ (.cons ⟨rfl,(zL rfl),rfl⟩ (.cons ⟨rfl,(zL rfl),rfl⟩ .nil))) rfl) ih
def gcd0.stop2:=fun h0 h1 h2=>Lq.stop (S2:=gcd0.st zb zs lx cx ly cy xs ys) (N:=(fun n=>n=0)) (f:=5) ⟨Aa div0.ok Ac,Ai,Ad,Ah⟩ Be ((((gcd0.rnd zb zs lx cx ly cy xs ys).cf h0).ct h1).cf h2) (fun q=>by cases q) (fun h=>M4 (ρ:=mp []) (.cons ⟨⟨_,rfl,(ruP rfl)⟩,(bptr (zL rfl))⟩ (.cons ⟨⟨_,rfl,(ruS rfl)⟩,(bslice (zL rfl))⟩ (.cons ⟨⟨_,rfl,(ruS rfl)⟩,(bslice (zL rfl))⟩ .nil))) (.cons ⟨rfl,(zL rfl),rfl⟩ (.cons ⟨rfl,(zL rfl),rfl⟩ (.cons ⟨rfl,(zL rfl),rfl⟩ .nil))) rfl)
def gcd0.stop3:=fun h0 h1=>Lq.stop (S2:=gcd0.st zb zs lx cx ly cy xs ys) (N:=(fun n=>n=0)) (f:=5) ⟨Aa div0.ok Ac,Ai,Ad,Ah⟩ Be (((gcd0.rnd zb zs lx cx ly cy xs ys).cf h0).cf h1) (fun q=>by cases q) (fun h=>M4 (ρ:=mp []) (.cons ⟨⟨_,rfl,(ruP rfl)⟩,(bptr (zL rfl))⟩ (.cons ⟨⟨_,rfl,(ruS rfl)⟩,(bslice (zL rfl))⟩ (.cons ⟨⟨_,rfl,(ruS rfl)⟩,(bslice (zL rfl))⟩ .nil))) (.cons ⟨rfl,(zL rfl),rfl⟩ (.cons ⟨rfl,(zL rfl),rfl⟩ (.cons ⟨rfl,(zL rfl),rfl⟩ .nil))) rfl)
end
section
variable {N:Nat→Prop} {xe:X} {Se:St} (zb:Bool) (zs:ByteArray) (lx cx ly cy:Nat) (xs ys:List Int)
theorem gcd1.rnd:rd Tryz.prog ⟨[(132,div1.sp)],[],[]⟩ [] 5 (Ag Tryz.f118 0) (gcd0.st zb zs lx cx ly cy xs ys) 65 [4,5,6] [208,256,32,417,545]=
 bif decide (((ly:Nat):Int)>2) then bif Du 0 lx xs&&(Du 0 ly ys&&(ly.beq 1&&(decide (0≤cmpI lx ly (nv (seg xs 0 lx)) (nv (seg ys 0 ly)))&&decide (0<nv (seg ys 0 ly))))) then some ((X.normal,[Value.pointer (some {block:=32,off:=0}),Value.slice (some {block:=256,off:=0}) ly cy,Value.slice (some {block:=417,off:=0}) (tl (dg 1 (nv (seg xs 0 lx)%nv (seg ys 0 ly)))) 1],[some (Blk.is u32 xs 144),some (Blk.is u32 ys 144),some (Blk.cs [Value.bool zb,Value.string zs] 24),some (Blk.is u32 (dg 1 (nv (seg xs 0 lx)%nv (seg ys 0 ly))) 144),none])) else none else bif decide (((lx:Nat):Int)>2) then bif decide (((ly:Nat):Int)>0) then bif Du 0 lx xs&&(Du 0 ly ys&&(ly.beq 1&&(decide (0≤cmpI lx ly (nv (seg xs 0 lx)) (nv (seg ys 0 ly)))&&decide (0<nv (seg ys 0 ly))))) then some ((X.normal,[Value.pointer (some {block:=32,off:=0}),Value.slice (some {block:=256,off:=0}) ly cy,Value.slice (some {block:=545,off:=0}) (tl (dg 1 (nv (seg xs 0 lx)%nv (seg ys 0 ly)))) 1],[some (Blk.is u32 xs 144),some (Blk.is u32 ys 144),some (Blk.cs [Value.bool zb,Value.string zs] 24),none,some (Blk.is u32 (dg 1 (nv (seg xs 0 lx)%nv (seg ys 0 ly))) 144)])) else none else some ((X.exit 0,[Value.pointer (some {block:=32,off:=0}),Value.slice (some {block:=208,off:=0}) lx cx,Value.slice (some {block:=256,off:=0}) ly cy],[some (Blk.is u32 xs 144),some (Blk.is u32 ys 144),some (Blk.cs [Value.bool zb,Value.string zs] 24),none,none])) else some ((X.exit 0,[Value.pointer (some {block:=32,off:=0}),Value.slice (some {block:=208,off:=0}) lx cx,Value.slice (some {block:=256,off:=0}) ly cy],[some (Blk.is u32 xs 144),some (Blk.is u32 ys 144),some (Blk.cs [Value.bool zb,Value.string zs] 24),none,none])):=by kernel_rfl
def gcd1.step0:=fun h0 h1 (ih:Lq Tryz.prog (fun n=>n=0) (Ag Tryz.f118 0) (gcd0.st zb zs ly cy (tl (dg 1 (nv (seg xs 0 lx)%nv (seg ys 0 ly)))) 1 ys (dg 1 (nv (seg xs 0 lx)%nv (seg ys 0 ly)))) xe (Se))=>Lq.step (S2:=gcd0.st zb zs ly cy (tl (dg 1 (nv (seg xs 0 lx)%nv (seg ys 0 ly)))) 1 ys (dg 1 (nv (seg xs 0 lx)%nv (seg ys 0 ly)))) (f:=5) ⟨Aa div1.ok Ac,Ai,Ad,Ah⟩ Be (((gcd1.rnd zb zs lx cx ly cy xs ys).ct h0).ct h1) (fun h=>M4 (ρ:=mp [(208,256),(256,417)]) (.cons ⟨⟨_,rfl,(ruP rfl)⟩,(bptr (zL rfl))⟩ (.cons ⟨⟨_,rfl,(ruS rfl)⟩,(bslice (zL rfl))⟩ (.cons ⟨⟨_,rfl,(ruS rfl)⟩,(bslice (zL rfl))⟩ .nil))) (.cons ⟨rfl,(zL rfl),rfl⟩ (.cons ⟨rfl,(zL rfl),rfl⟩ (.cons ⟨rfl,(zL rfl),rfl⟩ .nil))) rfl) ih
def gcd1.step1:=fun h0 h1 h2 h3 (ih:Lq Tryz.prog (fun n=>n=0) (Ag Tryz.f118 0) (gcd0.st zb zs ly cy (tl (dg 1 (nv (seg xs 0 lx)%nv (seg ys 0 ly)))) 1 ys (dg 1 (nv (seg xs 0 lx)%nv (seg ys 0 ly)))) xe (Se))=>Lq.step (S2:=gcd0.st zb zs ly cy (tl (dg 1 (nv (seg xs 0 lx)%nv (seg ys 0 ly)))) 1 ys (dg 1 (nv (seg xs 0 lx)%nv (seg ys 0 ly)))) (f:=5) ⟨Aa div1.ok Ac,Ai,Ad,Ah⟩ Be (((((gcd1.rnd zb zs lx cx ly cy xs ys).cf h0).ct h1).ct h2).ct h3) (fun h=>M4 (ρ:=mp [(208,256),(256,545)]) (.cons ⟨⟨_,rfl,(ruP rfl)⟩,(bptr (zL rfl))⟩ (.cons ⟨⟨_,rfl,(ruS rfl)⟩,(bslice (zL rfl))⟩ (.cons ⟨⟨_,rfl,(ruS rfl)⟩,(bslice (zL rfl))⟩ .nil))) (.cons ⟨rfl,(zL rfl),rfl⟩ (.cons ⟨rfl,(zL rfl),rfl⟩ (.cons ⟨rfl,(zL rfl),rfl⟩ .nil))) rfl) ih
end
section
variable {N:Nat→Prop} {xe:X} {Se:St} (zb:Bool) (zs:ByteArray) (lx cx ly cy:Nat) (xs ys:List Int)
theorem gcd2.rnd:rd Tryz.prog ⟨[(132,div2.sp)],[],[]⟩ [] 5 (Ag Tryz.f118 0) (gcd0.st zb zs lx cx ly cy xs ys) 65 [4,5,6] [208,256,32,417,545]=
 bif decide (((ly:Nat):Int)>2) then bif Du 0 lx xs&&(Du 0 ly ys&&(Nat.ble 2 ly&&(ly.ble lx&&(lx.ble 4294967295&&(decide (0≤cmpI lx ly (nv (seg xs 0 lx)) (nv (seg ys 0 ly)))&&decide (0<ys.getD (0+(ly-1)) 0)))))) then some ((X.normal,[Value.pointer (some {block:=32,off:=0}),Value.slice (some {block:=256,off:=0}) ly cy,Value.slice (some {block:=417,off:=0}) (tl (dg (lx+1) (nv (seg xs 0 lx)%nv (seg ys 0 ly)))) (lx+1)],[some (Blk.is u32 xs 144),some (Blk.is u32 ys 144),some (Blk.cs [Value.bool zb,Value.string zs] 24),some (Blk.is u32 (dg (lx+1) (nv (seg xs 0 lx)%nv (seg ys 0 ly))) 144),none])) else none else bif decide (((lx:Nat):Int)>2) then bif decide (((ly:Nat):Int)>0) then bif Du 0 lx xs&&(Du 0 ly ys&&(Nat.ble 2 ly&&(ly.ble lx&&(lx.ble 4294967295&&(decide (0≤cmpI lx ly (nv (seg xs 0 lx)) (nv (seg ys 0 ly)))&&decide (0<ys.getD (0+(ly-1)) 0)))))) then some ((X.normal,[Value.pointer (some {block:=32,off:=0}),Value.slice (some {block:=256,off:=0}) ly cy,Value.slice (some {block:=545,off:=0}) (tl (dg (lx+1) (nv (seg xs 0 lx)%nv (seg ys 0 ly)))) (lx+1)],[some (Blk.is u32 xs 144),some (Blk.is u32 ys 144),some (Blk.cs [Value.bool zb,Value.string zs] 24),none,some (Blk.is u32 (dg (lx+1) (nv (seg xs 0 lx)%nv (seg ys 0 ly))) 144)])) else none else some ((X.exit 0,[Value.pointer (some {block:=32,off:=0}),Value.slice (some {block:=208,off:=0}) lx cx,Value.slice (some {block:=256,off:=0}) ly cy],[some (Blk.is u32 xs 144),some (Blk.is u32 ys 144),some (Blk.cs [Value.bool zb,Value.string zs] 24),none,none])) else some ((X.exit 0,[Value.pointer (some {block:=32,off:=0}),Value.slice (some {block:=208,off:=0}) lx cx,Value.slice (some {block:=256,off:=0}) ly cy],[some (Blk.is u32 xs 144),some (Blk.is u32 ys 144),some (Blk.cs [Value.bool zb,Value.string zs] 24),none,none])):=by kernel_rfl
def gcd2.step0:=fun h0 h1 (ih:Lq Tryz.prog (fun n=>n=0) (Ag Tryz.f118 0) (gcd0.st zb zs ly cy (tl (dg (lx+1) (nv (seg xs 0 lx)%nv (seg ys 0 ly)))) (lx+1) ys (dg (lx+1) (nv (seg xs 0 lx)%nv (seg ys 0 ly)))) xe (Se))=>Lq.step (S2:=gcd0.st zb zs ly cy (tl (dg (lx+1) (nv (seg xs 0 lx)%nv (seg ys 0 ly)))) (lx+1) ys (dg (lx+1) (nv (seg xs 0 lx)%nv (seg ys 0 ly)))) (f:=5) ⟨Aa div2.ok Ac,Ai,Ad,Ah⟩ Be (((gcd2.rnd zb zs lx cx ly cy xs ys).ct h0).ct h1) (fun h=>M4 (ρ:=mp [(208,256),(256,417)]) (.cons ⟨⟨_,rfl,(ruP rfl)⟩,(bptr (zL rfl))⟩ (.cons ⟨⟨_,rfl,(ruS rfl)⟩,(bslice (zL rfl))⟩ (.cons ⟨⟨_,rfl,(ruS rfl)⟩,(bslice (zL rfl))⟩ .nil))) (.cons ⟨rfl,(zL rfl),rfl⟩ (.cons ⟨rfl,(zL rfl),rfl⟩ (.cons ⟨rfl,(zL rfl),rfl⟩ .nil))) rfl) ih
def gcd2.step1:=fun h0 h1 h2 h3 (ih:Lq Tryz.prog (fun n=>n=0) (Ag Tryz.f118 0) (gcd0.st zb zs ly cy (tl (dg (lx+1) (nv (seg xs 0 lx)%nv (seg ys 0 ly)))) (lx+1) ys (dg (lx+1) (nv (seg xs 0 lx)%nv (seg ys 0 ly)))) xe (Se))=>Lq.step (S2:=gcd0.st zb zs ly cy (tl (dg (lx+1) (nv (seg xs 0 lx)%nv (seg ys 0 ly)))) (lx+1) ys (dg (lx+1) (nv (seg xs 0 lx)%nv (seg ys 0 ly)))) (f:=5) ⟨Aa div2.ok Ac,Ai,Ad,Ah⟩ Be (((((gcd2.rnd zb zs lx cx ly cy xs ys).cf h0).ct h1).ct h2).ct h3) (fun h=>M4 (ρ:=mp [(208,256),(256,545)]) (.cons ⟨⟨_,rfl,(ruP rfl)⟩,(bptr (zL rfl))⟩ (.cons ⟨⟨_,rfl,(ruS rfl)⟩,(bslice (zL rfl))⟩ (.cons ⟨⟨_,rfl,(ruS rfl)⟩,(bslice (zL rfl))⟩ .nil))) (.cons ⟨rfl,(zL rfl),rfl⟩ (.cons ⟨rfl,(zL rfl),rfl⟩ (.cons ⟨rfl,(zL rfl),rfl⟩ .nil))) rfl) ih
end
section
variable {N:Nat→Prop} {xe:X} {Se:St} (zb:Bool) (zs:ByteArray) (n m:Int) (nx:Nat)
abbrev gce.st:St:=⟨gbuild [(4,.pointer (some ⟨32,0,none⟩)),(9,.int .u64 n),(10,.int .u64 m)] 0 65,[(32,.cs [Value.bool zb,Value.string zs] 24)],nx⟩
abbrev gce.lk:=RX.lk [4,9,10] [32]
theorem gce.rnd:rd Tryz.prog ⟨[],[],[]⟩ [] 3 (Ag Tryz.f118 2) (gce.st zb zs n m nx) 65 [4,9,10] [32]=
 bif m !=0 then bif m !=0 then gce.lk .normal (gce.st zb zs m (n.tmod m) nx) else none else gce.lk (.exit 2) (gce.st zb zs n m nx):=by kernel_rfl
def gce.step0:=fun h0 h1 (ih:Lq Tryz.prog N (Ag Tryz.f118 2) _ xe Se)=>Lq.toK (f:=3) ⟨Ac,Ai,Ad,Ah⟩ Be (((gce.rnd zb zs n m nx).ct h0).ct h1) rfl rfl ih
def gce.stop1:=fun h0=>Lq.endK (N:=N) (f:=3) ⟨Ac,Ai,Ad,Ah⟩ Be ((gce.rnd zb zs n m nx).cf h0) (fun q=>by cases q) rfl rfl
end
theorem MP (a b:Int):Int.gcd a (b%a)=Int.gcd a b:=by
 have h:=Int.emod_add_mul_ediv b a
 have h1:=Int.gcd_add_mul_right_right a (b%a) (b/a)
 rw [Int.mul_comm (b/a),h] at h1
 exact h1.symm
theorem gI_ex:∃f:Int→Int→Int,∀a b,f a b=((Int.gcd a b:Nat):Int):=⟨_,fun _ _=>rfl⟩
noncomputable def gI:Int→Int→Int:=Classical.choose gI_ex
theorem HU (a b:Int):gI a b=((Int.gcd a b:Nat):Int):=Classical.choose_spec gI_ex a b
structure GQ where
 xs:List Int
 cx:Nat
 ys:List Int
 cy:Nat
def GQ.more (q:GQ):Bool:=decide (2<tl q.ys)||(decide (2<tl q.xs)&&decide (0<tl q.ys))
def GQ.next (q:GQ):GQ:=bif decide (nv q.xs<nv q.ys) then ⟨q.ys,q.cy,q.xs,q.cx⟩ else bif Nat.beq (tl q.ys) 1 then ⟨q.ys,q.cy,dg 1 (nv q.xs%nv q.ys),1⟩ else ⟨q.ys,q.cy,dg (tl q.xs+1) (nv q.xs%nv q.ys),tl q.xs+1⟩
def GQ.go:Nat→GQ→GQ
 |0,q=>q
 |k+1,q=>bif q.more then GQ.go k q.next else q
theorem gq_ex:∃f:GQ→GQ,∀q,f q=GQ.go ((nv q.ys).toNat+1) q:=⟨_,fun _=>rfl⟩
noncomputable def gq:GQ→GQ:=Classical.choose gq_ex
theorem gq_eq (q:GQ):gq q=GQ.go ((nv q.ys).toNat+1) q:=Classical.choose_spec gq_ex q
structure GQ.Ok (q:GQ):Prop where
 x:dig q.xs
 y:dig q.ys
 lx:tl q.xs≤2147483648
 ly:tl q.ys≤2147483648
theorem R4 {xs:List Int} (h:dig xs):nv (seg xs 0 (tl xs))=nv xs:=Nm h 0
theorem L1 {xs:List Int} (h:dig xs) (h':tl xs≤2147483648):Du 0 (tl xs) xs=true:=Eo.2 ⟨by have:=Hz xs; omega,by omega,h⟩
theorem cmp_tl {xs ys:List Int} (hx:dig xs) (hy:dig ys):cmpI (tl xs) (tl ys) (nv xs) (nv ys)≥0↔nv ys≤nv xs:=by
 have:=KD (n:=xs.length) (m:=ys.length) (El hx) (Gz hx) (El hy) (Gz hy)
 rwa [Jn hx,Jn hy] at this
theorem On {xs ys:List Int} (hx:dig xs) (hy:dig ys) (h:nv ys≤nv xs):tl ys≤tl xs:=by
 have:=QW (n:=xs.length) (m:=ys.length) (El hx) (Gz hx) (El hy) (Gz hy) h
 rwa [Jn hx,Jn hy] at this
theorem top_of {ys:List Int} (hy:dig ys) (h:0<nv ys):1≤tl ys∧0<ys.getD (0+(tl ys-1)) 0:=by
 have:=Pj h (Gz hy)
 rwa [Jn hy] at this
theorem N5 {xs:List Int} (hx:dig xs):nv xs<pw (tl xs):=by
 have:=Ii (El hx) (Gz hx)
 rwa [Jn hx] at this
theorem Pv {ys:List Int} (hy:dig ys):0<tl ys↔0<nv ys:=by
 have h1:=MC hy
 have h2:=El hy
 omega
theorem GQ.Ok.next {q:GQ} (h:q.Ok) (hm:q.more=true):q.next.Ok∧nv q.next.ys<nv q.ys∧0≤nv q.next.ys∧Int.gcd (nv q.next.xs) (nv q.next.ys)=Int.gcd (nv q.xs) (nv q.ys):=by
 obtain ⟨hx,hy,lx,ly⟩:=h
 have hp:0<nv q.ys:=(Pv hy).1 (by simp only [GQ.more,Bool.or_eq_true,zB,zD] at hm; omega)
 have a0:=El hx
 have m0:=Int.emod_nonneg (nv q.xs) (show nv q.ys≠0 by omega)
 have m1:=Int.emod_lt_of_pos (nv q.xs) hp
 have hg:Int.gcd (nv q.ys) (nv q.xs%nv q.ys)=Int.gcd (nv q.xs) (nv q.ys):=by
  rw [Int.gcd_comm (nv q.xs)]; exact MP _ _
 unfold GQ.next
 cases hc:decide (nv q.xs<nv q.ys) with
 | true=>
  simp only [cond_true]
  exact ⟨⟨hy,hx,ly,lx⟩,of_decide_eq_true hc,a0,Int.gcd_comm _ _⟩
 | false=>
  have hc:=of_decide_eq_false hc
  have hlx:=N5 hx
  simp only [cond_false]
  cases hb:Nat.beq (tl q.ys) 1 with
  | true=>
   have hb:=zE hb
   have hly:=N5 hy
   rw [hb] at hly
   have ht:=Hz (dg 1 (nv q.xs%nv q.ys))
   rw [Di] at ht
   simp only [cond_true]
   rw [I0 1 _ m0 (by omega)]
   exact ⟨⟨hy,Gn _ _,ly,by show tl (dg 1 _)≤_; omega⟩,m1,m0,hg⟩
  | false=>
   have h1:pw (tl q.xs)≤pw (tl q.xs+1):=Hh (by omega)
   simp only [cond_false]
   have ht:tl (dg (tl q.xs+1) (nv q.xs%nv q.ys))≤tl q.ys:=by
    have:=On (xs:=q.ys) (ys:=dg (tl q.xs+1) (nv q.xs%nv q.ys)) hy (Gn _ _) (by rw [I0 _ _ m0 (by omega)]; omega)
    exact this
   rw [I0 _ _ m0 (by omega)]
   exact ⟨⟨hy,Gn _ _,ly,Nat.le_trans ht ly⟩,m1,m0,hg⟩
theorem GQ.go_ok:∀(k:Nat) (q:GQ),q.Ok→nv q.ys<k→(GQ.go k q).Ok∧(GQ.go k q).more=false∧Int.gcd (nv (GQ.go k q).xs) (nv (GQ.go k q).ys)=Int.gcd (nv q.xs) (nv q.ys)
 |0,q,h,hk=>by have:=El h.y; omega
 | k +1,q,h,hk=>by
  unfold GQ.go
  cases hm:q.more with
  |false=>exact ⟨h,hm,rfl⟩
  | true=>
   obtain ⟨h1,h2,_,h3⟩:=h.next hm
   obtain ⟨r1,r2,r3⟩:=GQ.go_ok k q.next h1 (by omega)
   simp only [cond_true]
   exact ⟨r1,r2,r3.trans h3⟩
abbrev GQ.st (q:GQ) (zb:Bool) (zs:ByteArray):St:=gcd0.st zb zs (tl q.xs) q.cx (tl q.ys) q.cy q.xs q.ys
def gcd0.ok (lx ly:Nat) (xs ys:List Int):Bool:=digB xs&&(digB ys&&(Nat.beq lx (tl xs)&&(Nat.beq ly (tl ys)&&(Nat.ble lx 2147483648&&Nat.ble ly 2147483648))))
noncomputable def gcd0.lt (zb:Bool) (zs:ByteArray) (lx cx ly cy:Nat) (xs ys:List Int):LT:= .got (gcd0.ok lx ly xs ys) (.exit 0) (GQ.st (gq ⟨xs,cx,ys,cy⟩) zb zs)
theorem gcd0.go (zb:Bool) (zs:ByteArray):∀(k:Nat) (q:GQ),q.Ok→nv q.ys<k→Lq Tryz.prog (fun n=>n=0) (Ag Tryz.f118 0) (q.st zb zs) (.exit 0) ((GQ.go k q).st zb zs)
 |0,q,h,hk=>by have:=El h.y; omega
 | k + 1,q,h,hk=>by
  unfold GQ.go
  cases hm:q.more with
  | false=>
   have hm':¬2<tl q.ys∧(2<tl q.xs→¬0<tl q.ys):=by simpa [GQ.more] using hm
   by_cases h1:2<tl q.xs
   ·exact gcd0.stop2 _ _ _ _ _ _ _ _ (dfalse (by omega)) (dtrue (by omega)) (dfalse (by have:=hm'.2 h1; omega))
   ·exact gcd0.stop3 _ _ _ _ _ _ _ _ (dfalse (by omega)) (dfalse (by omega))
  | true=>
   obtain ⟨n1,n2,n3,_⟩:=h.next hm
   have ih:=gcd0.go zb zs k q.next n1 (by omega)
   obtain ⟨hx,hy,lx,ly⟩:=h
   have hm':2<tl q.ys∨2<tl q.xs∧0<tl q.ys:=by simpa [GQ.more] using hm
   have hp:0<nv q.ys:=(Pv hy).1 (by omega)
   have ex:=R4 hx
   have ey:=R4 hy
   have ox:=L1 hx lx
   have oy:=L1 hy ly
   have hcm:=cmp_tl hx hy
   simp only [cond_true]
   unfold GQ.next at ih ⊢
   cases hc:decide (nv q.xs<nv q.ys) with
   | true=>
    have hc':=of_decide_eq_true hc
    rw [hc] at ih
    simp only [cond_true] at ih ⊢
    have key:(Du 0 (tl q.xs) q.xs&&Du 0 (tl q.ys) q.ys&&decide (cmpI (tl q.xs) (tl q.ys) (nv (seg q.xs 0 (tl q.xs))) (nv (seg q.ys 0 (tl q.ys)))<0))=true:=by
     rw [ex,ey,ox,oy,Bool.and_self,Bool.true_and]; exact dtrue (by omega)
    by_cases h1:2<tl q.ys
    ·exact gcd0.step0 _ _ _ _ _ _ _ _ (dtrue (by omega)) key ih
    ·exact gcd0.step1 _ _ _ _ _ _ _ _ (dfalse (by omega)) (dtrue (by omega)) (dtrue (by omega)) key ih
   | false=>
    have hc':=of_decide_eq_false hc
    rw [hc] at ih
    simp only [cond_false] at ih ⊢
    cases hb:Nat.beq (tl q.ys) 1 with
    | true=>
     rw [hb] at ih
     simp only [cond_true] at ih ⊢
     have key:(Du 0 (tl q.xs) q.xs&&(Du 0 (tl q.ys) q.ys&&((tl q.ys).beq 1&&(decide (0≤cmpI (tl q.xs) (tl q.ys) (nv (seg q.xs 0 (tl q.xs))) (nv (seg q.ys 0 (tl q.ys))))&&decide (0<nv (seg q.ys 0 (tl q.ys)))))))=true:=by
      rw [ex,ey,ox,oy,Bool.true_and,Bool.true_and,hb,Bool.true_and]; exact dtrue2 (by omega) hp
     by_cases h1:2<tl q.ys
     ·exact gcd1.step0 _ _ _ _ _ _ _ _ (dtrue (by omega)) key (by rw [ex,ey]; exact ih)
     ·exact gcd1.step1 _ _ _ _ _ _ _ _ (dfalse (by omega)) (dtrue (by omega)) (dtrue (by omega)) key (by rw [ex,ey]; exact ih)
    | false=>
     rw [hb] at ih
     simp only [cond_false] at ih ⊢
     have hb':tl q.ys≠1:=fun e=>by rw [e] at hb; cases hb
     obtain ⟨t1,t2⟩:=top_of hy hp
     have hle:=On hx hy (show nv q.ys≤nv q.xs by omega)
     have key:(Du 0 (tl q.xs) q.xs&&(Du 0 (tl q.ys) q.ys&&(Nat.ble 2 (tl q.ys)&&((tl q.ys).ble (tl q.xs)&&((tl q.xs).ble 4294967295&&(decide (0≤cmpI (tl q.xs) (tl q.ys) (nv (seg q.xs 0 (tl q.xs))) (nv (seg q.ys 0 (tl q.ys))))&&decide (0<q.ys.getD (0+(tl q.ys-1)) 0)))))))=true:=by
      rw [ex,ey,ox,oy,Bool.true_and,Bool.true_and,Nat.ble_eq_true_of_le (show 2≤tl q.ys by omega),Nat.ble_eq_true_of_le hle,Nat.ble_eq_true_of_le (show tl q.xs≤4294967295 by omega),Bool.true_and,Bool.true_and,Bool.true_and]
      exact dtrue2 (by omega) t2
     by_cases h1:2<tl q.ys
     ·exact gcd2.step0 _ _ _ _ _ _ _ _ (dtrue (by omega)) key (by rw [ex,ey]; exact ih)
     ·exact gcd2.step1 _ _ _ _ _ _ _ _ (dfalse (by omega)) (dtrue (by omega)) (dtrue (by omega)) key (by rw [ex,ey]; exact ih)
theorem gcd0.lp (zb:Bool) (zs:ByteArray) (lx cx ly cy:Nat) (xs ys:List Int) {x:X} {S':St} (h:(gcd0.lt zb zs lx cx ly cy xs ys).at=some (x,S')):Lq Tryz.prog (fun n=>n=0) (Ag Tryz.f118 0) (gcd0.st zb zs lx cx ly cy xs ys) x S':=by
 obtain ⟨h1,rfl,rfl⟩:=Fw h
 simp only [gcd0.ok,zB,Nat.ble_eq,Hw] at h1
 obtain ⟨hx,hy,e1,e2,h5,h6⟩:=h1
 obtain rfl:=zE e1
 obtain rfl:=zE e2
 rw [gq_eq]
 have hn:=El hy
 exact gcd0.go zb zs ((nv ys).toNat+1) ⟨xs,cx,ys,cy⟩ ⟨hx,hy,h5,h6⟩ (by show nv ys<_; omega)
noncomputable def gcd0.t:LSpec:=fun S=>match RX.nth S.tmps 4,RX.nth S.tmps 5,RX.nth S.tmps 6,RX.look S.heap 208,RX.look S.heap 256,RX.look S.heap 32,S.nxt with
 | .pointer (some ⟨32,0,none⟩),.slice (some ⟨208,0,none⟩) lx cx,.slice (some ⟨256,0,none⟩) ly cy,some (.is .u32 xs 144),some (.is .u32 ys 144),some (.cs [Value.bool zb,Value.string zs] 24),304=>bif Nat.beq S.tmps.length 65 then some (gcd0.lt zb zs lx cx ly cy xs ys) else none
 |_,_,_,_,_,_,_=>none
theorem gcd0.lok:LOKn Tryz.prog (fun n=>n=0) (Ag Tryz.f118 0) (gcd0.t):=by
 refine Ge fun S lt x S' ht hat=> ?_
 unfold gcd0.t at ht
 split at ht
 ·rename_i lx cx ly cy xs ys zb zs h4 h5 h6 g208 g256 g32 hnx
  cases hb:Nat.beq S.tmps.length 65 with
  |false=>rw [hb] at ht; cases ht
  | true=>
   rw [hb] at ht
   injection ht with ht
   subst ht
   have hb:=zE hb
   obtain ⟨T,H,_⟩:=S
   subst hnx
   exact .enter (fun h=>Gr hb (.cons ⟨h4,bnth h h4⟩ (.cons ⟨h5,bnth h h5⟩ (.cons ⟨h6,bnth h h6⟩ .nil))) (.cons ⟨g208,bname h g208,rfl⟩ (.cons ⟨g256,bname h g256,rfl⟩ (.cons ⟨g32,bname h g32,rfl⟩ .nil)))) (gcd0.lp _ _ _ _ _ _ _ _ hat)
 ·cases ht
def gce.ok (n m:Int):Bool:=decide (0≤n)&&decide (0≤m)
noncomputable def gce.lt (zb:Bool) (zs:ByteArray) (n m:Int) (nx:Nat):LT:= .got (gce.ok n m) (.exit 2) (gce.st zb zs (gI n m) 0 nx)
theorem gce.go {N:Nat→Prop} (zb:Bool) (zs:ByteArray) (nx:Nat):∀(k:Nat) (n m:Int),0≤n→0≤m→m<k→Lq Tryz.prog N (Ag Tryz.f118 2) (gce.st zb zs n m nx) (.exit 2) (gce.st zb zs (gI n m) 0 nx)
 |0,n,m,h,h',hk=>by omega
 | k +1,n,m,h,h',hk=>by
  by_cases h0:m=0
  ·subst h0
   have:=gce.stop1 (N:=N) zb zs n 0 nx rfl
   rw [HU,Int.gcd_zero_right,Int.natAbs_of_nonneg h]
   exact this
  ·have hr0:=Int.emod_nonneg n h0
   have hr1:=Int.emod_lt_of_pos n (show 0<m by omega)
   refine gce.step0 zb zs n m nx (Em h0) (Em h0) ?_
   have ih:=gce.go (N:=N) zb zs nx k m (n%m) h' hr0 (by omega)
   rw [Int.tmod_eq_emod_of_nonneg h]
   have hg:Int.gcd m (n%m)=Int.gcd n m:=by rw [Int.gcd_comm n]; exact MP _ _
   rw [HU,hg,←HU] at ih
   exact ih
theorem gce.lp {N:Nat→Prop} (zb:Bool) (zs:ByteArray) (n m:Int) (nx:Nat) {x:X} {S':St} (h:(gce.lt zb zs n m nx).at=some (x,S')):Lq Tryz.prog N (Ag Tryz.f118 2) (gce.st zb zs n m nx) x S':=by
 obtain ⟨h1,rfl,rfl⟩:=Fw h
 simp only [gce.ok,zB,zD] at h1
 exact gce.go zb zs nx (m.toNat+1) n m h1.1 h1.2 (by omega)
noncomputable def gce.t:LSpec:=fun S=>match RX.nth S.tmps 4,RX.nth S.tmps 9,RX.nth S.tmps 10,RX.look S.heap 32 with
 | .pointer (some ⟨32,0,none⟩),.int .u64 n,.int .u64 m,some (.cs [Value.bool zb,Value.string zs] 24)=>bif Nat.beq S.tmps.length 65 then some (gce.lt zb zs n m S.nxt) else none
 |_,_,_,_=>none
theorem gce.lok {N:Nat→Prop} :LOKn Tryz.prog N (Ag Tryz.f118 2) (gce.t):=by
 refine Ge fun S lt x S' ht hat=> ?_
 unfold gce.t at ht
 split at ht
 ·rename_i n m zb zs h4 h9 h10 g32
  cases hb:Nat.beq S.tmps.length 65 with
  |false=>rw [hb] at ht; cases ht
  | true=>
   rw [hb] at ht
   injection ht with ht
   subst ht
   have hb:=zE hb
   exact .enter (fun h=>Gr hb (.cons ⟨h4,bnth h h4⟩ (.cons ⟨h9,bnth h h9⟩ (.cons ⟨h10,bnth h h10⟩ .nil))) (.cons ⟨g32,bname h g32,rfl⟩ .nil)) (gce.lp _ _ _ _ _ hat)
 ·cases ht
theorem rGcd.run (na:Bool) (sa:ByteArray) (nb:Bool) (sb:ByteArray):xfn Tryz.prog ⟨[(96,Valid.sp),(121,of.sp),(120,with.sp),(133,single.sp),(119,word.sp)],[],[]⟩ [(0,gcd0.t),(2,gce.t)] 10 Tryz.f118 [.agg ⟨[.bool na,.string sa]⟩,.agg ⟨[.bool nb,.string sb]⟩] []=
 let c0:=gq {xs:=dg (nd sa) (bv sa.data.toList),cx:=nd sa,ys:=dg (nd sb) (bv sb.data.toList),cy:=nd sb}
 let c2:=seg c0.xs 0 (tl c0.xs)
 let c1:=dg 2 (gI (nv c2) (nv (seg c0.ys 0 (tl c0.ys))))
 bif !vld na sa then some ((Value.agg ⟨[Value.bool false,Value.string (⟨#[]⟩:ByteArray)]⟩,[])) else bif !vld nb sb then some ((Value.agg ⟨[Value.bool false,Value.string (⟨#[]⟩:ByteArray)]⟩,[])) else bif sa.size.ble 8589934592 then bif sb.size.ble 8589934592 then bif gcd0.ok (tl (dg (nd sa) (bv sa.data.toList))) (tl (dg (nd sb) (bv sb.data.toList))) (dg (nd sa) (bv sa.data.toList)) (dg (nd sb) (bv sb.data.toList)) then bif ((tl c0.ys:Nat):Int)==0 then bif Du 0 (tl c0.xs) c0.xs then some ((Value.agg ⟨[Value.bool (false&& !nv c2==0),Value.string (str (enc (nv c2)))]⟩,[])) else none else bif Du 0 (tl c0.xs) c0.xs&&(tl c0.xs).ble 2 then bif Du 0 (tl c0.ys) c0.ys&&(tl c0.ys).ble 2 then bif gce.ok (nv c2) (nv (seg c0.ys 0 (tl c0.ys))) then bif decide (0≤gI (nv c2) (nv (seg c0.ys 0 (tl c0.ys))))&&decide (gI (nv c2) (nv (seg c0.ys 0 (tl c0.ys)))<18446744073709551616) then bif Du 0 (tl c1) c1 then some ((Value.agg ⟨[Value.bool (false&& !nv (seg c1 0 (tl c1))==0),Value.string (str (enc (nv (seg c1 0 (tl c1)))))]⟩,[])) else none else none else none else none else none else none else none else none:=by kernel_rfl
def rGcd.run0:=fun na sa nb sb h0=>((rGcd.run na sa nb sb).ct h0)
def rGcd.run1:=fun na sa nb sb h0 h1=>(((rGcd.run na sa nb sb).cf h0).ct h1)
def rGcd.run2:=fun na sa nb sb h0 h1 h2 h3 h4 h5 h6=>((((((((rGcd.run na sa nb sb).cf h0).cf h1).ct h2).ct h3).ct h4).ct h5).ct h6)
def rGcd.run3:=fun na sa nb sb h0 h1 h2 h3 h4 h5 h6 h7 h8 h9 h10=>((((((((((((rGcd.run na sa nb sb).cf h0).cf h1).ct h2).ct h3).ct h4).cf h5).ct h6).ct h7).ct h8).ct h9).ct h10)
noncomputable def Gcd.sp:HSpec
 |[.agg ⟨[.bool na,.string sa]⟩,.agg ⟨[.bool nb,.string sb]⟩],[]=>some (szM sa&&szM sb,iI (bif vld na sa&&vld nb sb then gI (vl na sa) (vl nb sb) else 0),[])
 |_,_=>none
theorem gI_vl (na nb:Bool) (sa sb:ByteArray):gI (vl na sa) (vl nb sb)=((Int.gcd (bv sa.data.toList) (bv sb.data.toList):Nat):Int):=by
 rw [HU]
 unfold vl
 cases na<;>cases nb<;>simp [Int.gcd_neg,Int.neg_gcd]
theorem Gcd.ok:SOK Tryz.prog 118 Gcd.sp:=by
 refine Qf (N:=fun n=>n=0) (E:=⟨[(96,Valid.sp),(121,of.sp),(120,with.sp),(133,single.sp),(119,word.sp)],[],[]⟩) (L:=[(0,gcd0.t),(2,gce.t)]) ⟨Aa Valid.ok (Aa of.ok (Aa with.ok (Aa NX.ok (Aa word.ok Ac)))),Ai,Ad,Ah⟩ 10 Tryz.func118 (by decide) rfl (Hm rfl (Fv rfl gcd0.lok (Fv rfl gce.lok Be))) fun vs bl v bl' h=> ?_
 unfold Gcd.sp at h
 split at h
 ·rename_i na sa nb sb
  simp only [zS,zP,zB] at h
  obtain ⟨⟨h1,h2⟩,rfl,rfl⟩:=h
  refine ⟨⟨?_,by simp [okV],clo_spec 8 _ rfl,Ay rfl⟩,rfl⟩
  cases va:vld na sa with
  |false=>exact (rGcd.run0 na sa nb sb (GU va)).trans (by simp only [Bool.false_and,cond_false]; rw [Gm])
  |true=>
  cases vb:vld nb sb with
  |false=>exact (rGcd.run1 na sa nb sb (Dp va) (GU vb)).trans (by simp only [Bool.and_false,cond_false]; rw [Gm])
  |true=>
  have hsa:=zL h1
  have hsb:=zL h2
  have na_:nd sa≤1073741825:=by unfold nd; omega
  have nb_:nd sb≤1073741825:=by unfold nd; omega
  have a0:=Fd sa.data.toList
  have b0:=Fd sb.data.toList
  have a1:=H7 sa
  have b1:=H7 sb
  simp only [Bool.and_self,cond_true]
  rw [gI_vl]
  have n2:=rGcd.run2 na sa nb sb (Dp va) (Dp vb) (JA h1) (JA h2)
  have n3:=rGcd.run3 na sa nb sb (Dp va) (Dp vb) (JA h1) (JA h2)
  generalize bv sa.data.toList=A at*
  generalize bv sb.data.toList=B at*
  have ta:=Hz (dg (nd sa) A)
  have tb:=Hz (dg (nd sb) B)
  rw [Di] at ta tb
  have hk:gcd0.ok (tl (dg (nd sa) A)) (tl (dg (nd sb) B)) (dg (nd sa) A) (dg (nd sb) B)=true:=by
   simp only [gcd0.ok,zB,Nat.ble_eq,Nat.beq_eq,Hw]
   exact ⟨Gn _ _,Gn _ _,trivial,trivial,by omega,by omega⟩
  have hq:(⟨dg (nd sa) A,nd sa,dg (nd sb) B,nd sb⟩:GQ).Ok:=⟨Gn _ _,Gn _ _,by show tl (dg (nd sa) A)≤_; omega,by show tl (dg (nd sb) B)≤_; omega⟩
  have hr:=GQ.go_ok ((nv (dg (nd sb) B)).toNat+1) ⟨dg (nd sa) A,nd sa,dg (nd sb) B,nd sb⟩ hq (by have:=El (Gn (nd sb) B); show nv (dg (nd sb) B)<_; omega)
  rw [←gq_eq ⟨dg (nd sa) A,nd sa,dg (nd sb) B,nd sb⟩] at hr
  replace n2:=n2 hk
  replace n3:=n3 hk
  have eg:Int.gcd (nv (gq ⟨dg (nd sa) A,nd sa,dg (nd sb) B,nd sb⟩).xs) (nv (gq ⟨dg (nd sa) A,nd sa,dg (nd sb) B,nd sb⟩).ys)=Int.gcd A B:=by
   rw [hr.2.2]; show Int.gcd (nv (dg (nd sa) A)) (nv (dg (nd sb) B))=_
   rw [I0 _ _ a0 a1,I0 _ _ b0 b1]
  obtain ⟨⟨rx,ry,rlx,rly⟩,hm,_⟩:=hr
  generalize gq ⟨dg (nd sa) A,nd sa,dg (nd sb) B,nd sb⟩=r at*
  rw [R4 rx] at n2 n3
  rw [R4 ry] at n3
  have ox:=L1 rx rlx
  have oy:=L1 ry rly
  have x0:=El rx
  have y0:=El ry
  have hm':¬2<tl r.ys∧(2<tl r.xs→¬0<tl r.ys):=by simpa [GQ.more] using hm
  by_cases hz:tl r.ys=0
  ·have hy:nv r.ys=0:=(MC ry).1 hz
   refine (n2 (by rw [hz]; rfl) ox).trans ?_
   show some (iv false (nv r.xs),_)=_
   rw [IA false x0,cond_false,←eg,hy,Int.gcd_zero_right,Int.natAbs_of_nonneg x0]
  ·have hyp:0<nv r.ys:=(Pv ry).1 (by omega)
   have hlx:tl r.xs≤2:=by have:=hm'.2; omega
   have hly:tl r.ys≤2:=by omega
   have hg0:0≤gI (nv r.xs) (nv r.ys):=by rw [HU]; omega
   have hg1:gI (nv r.xs) (nv r.ys)≤nv r.ys:=by rw [HU]; exact Int.le_of_dvd hyp (Int.gcd_dvd_right _ _)
   have hlt:=N5 ry
   have hpw:pw (tl r.ys)≤pw 2:=Hh hly
   have e2:pw 2=18446744073709551616:=by decide
   have hbz:(((tl r.ys:Nat):Int)==0)=false:=by rw [beq_eq_false_iff_ne]; omega
   have key:=n3 hbz (by rw [ox,Bool.true_and]; exact Nat.ble_eq_true_of_le hlx) (by rw [oy,Bool.true_and]; exact Nat.ble_eq_true_of_le hly) (dtrue2 x0 y0) (dtrue2 hg0 (by omega)) (okc _ (by decide))
   refine key.trans ?_
   show some (iv false (nv (seg (dg 2 (gI (nv r.xs) (nv r.ys))) 0 (tl (dg 2 (gI (nv r.xs) (nv r.ys)))))),_)=_
   rw [nvc hg0 (by omega),IA false hg0,cond_false,HU,eg]
 ·cases h
theorem rCmp.run (na:Bool) (sa:ByteArray) (nb:Bool) (sb:ByteArray):xfn Tryz.prog ⟨[(108,Sub.sp),(97,Sign.sp)],[],[]⟩ [] 10 Tryz.f129 [.agg ⟨[.bool na,.string sa]⟩,.agg ⟨[.bool nb,.string sb]⟩] []=
 bif szOk sa&&szOk sb then some ((Value.int i64 (sgn (bif vld (decide ((bif vld na sa&&vld nb sb then vl na sa-vl nb sb else 0)<0)) (str (enc (((bif vld na sa&&vld nb sb then vl na sa-vl nb sb else 0).natAbs:Nat):Int))) then vl (decide ((bif vld na sa&&vld nb sb then vl na sa-vl nb sb else 0)<0)) (str (enc (((bif vld na sa&&vld nb sb then vl na sa-vl nb sb else 0).natAbs:Nat):Int))) else 0)),[])) else none:=by kernel_rfl
def rCmp.run0:=fun na sa nb sb h0=>((rCmp.run na sa nb sb).ct h0)
def Cmp.sp:HSpec
 |[.agg ⟨[.bool na,.string sa]⟩,.agg ⟨[.bool nb,.string sb]⟩],[]=>some (szOk sa&&szOk sb,.int .i64 (sgn (bif vld na sa&&vld nb sb then vl na sa-vl nb sb else 0)),[])
 |_,_=>none
theorem Cmp.ok:SOK Tryz.prog 129 Cmp.sp:=by
 refine Cu (E:=⟨[(108,Sub.sp),(97,Sign.sp)],[],[]⟩) (L:=[]) ⟨Aa Sub.ok (Aa Sign.ok Ac),Ai,Ad,Ah⟩ 10 Tryz.func129 (by decide) rfl Bv fun vs bl v bl' h=> ?_
 unfold Cmp.sp at h
 split at h
 ·rename_i na sa nb sb
  simp only [zS,zP] at h
  obtain ⟨h1,rfl,rfl⟩:=h
  refine ⟨(rCmp.run0 na sa nb sb h1).trans ?_,by simp [okV],clo_spec 8 _ rfl,Ay rfl⟩
  rw [JX,cond_true,Lz]
 ·cases h
def GcdC.sp:HSpec
 |[.agg ⟨[.bool na,.string sa]⟩,.agg ⟨[.bool nb,.string sb]⟩],[]=>some (szM sa&&szM sb,iI (bif vld na sa&&vld nb sb then ((Int.gcd (vl na sa) (vl nb sb):Nat):Int) else 0),[])
 |_,_=>none
theorem GcdC.ok:SOK Tryz.prog 118 GcdC.sp:=by
 refine ⟨Gcd.ok.enter,fun vs bl v bl' hs=>Gcd.ok.run vs bl v bl' ?_⟩
 unfold GcdC.sp at hs
 split at hs
 ·rw [←hs]
  show some _=some _
  rw [HU]
 ·cases hs
def dI (z:Int):Bool×ByteArray:=(decide (z<0),str (enc (z.natAbs:Int)))
def Ch (n:Bool) (s:ByteArray) (m:Bool) (t:ByteArray):Bool×ByteArray:=dI (bif vld n s&&vld m t then vl n s*vl m t else 0)
def Ch.pre (n:Bool) (s:ByteArray) (m:Bool) (t:ByteArray):Bool:=szM s&&szM t
theorem Ch.ok:SOK Tryz.prog 102 (Ch.sp Ch Ch.pre):=by
 refine ⟨Mul.ok.enter,fun vs bl v bl' hs=>Mul.ok.run vs bl v bl' ?_⟩
 unfold Ch.sp at hs
 split at hs
 ·rw [←hs]; rfl
 ·cases hs
def Ed (n:Bool) (s:ByteArray) (m:Bool) (t:ByteArray):Bool×ByteArray:=dI (bif vld n s&&vld m t then vl n s+vl m t else 0)
def Ed.pre (n:Bool) (s:ByteArray) (m:Bool) (t:ByteArray):Bool:=szOk s&&szOk t
theorem Ed.ok:SOK Tryz.prog 101 (Ed.sp Ed Ed.pre):=by
 refine ⟨Add.ok.enter,fun vs bl v bl' hs=>Add.ok.run vs bl v bl' ?_⟩
 unfold Ed.sp at hs
 split at hs
 ·rw [←hs]; rfl
 ·cases hs
def Fp (n:Bool) (s:ByteArray) (m:Bool) (t:ByteArray):Bool×ByteArray:=dI (bif vld n s&&vld m t then vl n s-vl m t else 0)
def Fp.pre (n:Bool) (s:ByteArray) (m:Bool) (t:ByteArray):Bool:=szOk s&&szOk t
theorem Fp.ok:SOK Tryz.prog 108 (Fp.sp Fp Fp.pre):=by
 refine ⟨Sub.ok.enter,fun vs bl v bl' hs=>Sub.ok.run vs bl v bl' ?_⟩
 unfold Fp.sp at hs
 split at hs
 ·rw [←hs]; rfl
 ·cases hs
def Fq (n:Bool) (s:ByteArray) (m:Bool) (t:ByteArray):Bool×ByteArray:=dI (bif vld n s&&vld m t then ((Int.gcd (vl n s) (vl m t):Nat):Int) else 0)
def Fq.pre (n:Bool) (s:ByteArray) (m:Bool) (t:ByteArray):Bool:=szM s&&szM t
theorem Fq.ok:SOK Tryz.prog 118 (Fq.sp Fq Fq.pre):=by
 refine ⟨GcdC.ok.enter,fun vs bl v bl' hs=>GcdC.ok.run vs bl v bl' ?_⟩
 unfold Fq.sp at hs
 split at hs
 ·rw [←hs]; rfl
 ·cases hs
def Fs (n:Bool) (s:ByteArray) (m:Bool) (t:ByteArray):Int:=sgn (bif vld n s&&vld m t then vl n s-vl m t else 0)
def Fs.pre (n:Bool) (s:ByteArray) (m:Bool) (t:ByteArray):Bool:=szOk s&&szOk t
theorem Fs.ok:SOK Tryz.prog 129 (Fs.sp Fs Fs.pre):=by
 refine ⟨Cmp.ok.enter,fun vs bl v bl' hs=>Cmp.ok.run vs bl v bl' ?_⟩
 unfold Fs.sp at hs
 split at hs
 ·rw [←hs]; rfl
 ·cases hs
def Dh (n:Int):Bool×ByteArray:=dI n
def Dh.pre (n:Int):Bool:=decide (-9223372036854775808≤n)&&decide (n≤9223372036854775807)
theorem Dh.ok:SOK Tryz.prog 99 (Dh.sp Dh Dh.pre):=by
 refine ⟨Of.ok.enter,fun vs bl v bl' hs=>Of.ok.run vs bl v bl' ?_⟩
 unfold Dh.sp at hs
 split at hs
 ·rw [←hs]; rfl
 ·cases hs
def Fz (n:Bool) (s:ByteArray):Bool:=vld n s
theorem Fz.ok:SOK Tryz.prog 96 (Fz.sp Fz):=by
 refine ⟨Valid.ok.enter,fun vs bl v bl' hs=>Valid.ok.run vs bl v bl' ?_⟩
 unfold Fz.sp at hs
 split at hs
 ·rw [←hs]; rfl
 ·cases hs
def Eu (n:Bool) (s:ByteArray):Int:=sgn (bif vld n s then vl n s else 0)
theorem Eu.ok:SOK Tryz.prog 97 (Eu.sp Eu):=by
 refine ⟨Sign.ok.enter,fun vs bl v bl' hs=>Sign.ok.run vs bl v bl' ?_⟩
 unfold Eu.sp at hs
 split at hs
 ·rw [←hs]; rfl
 ·cases hs
def Fb (n:Bool) (s:ByteArray):Bool×ByteArray:=dI (bif vld n s then -vl n s else 0)
theorem Fb.ok:SOK Tryz.prog 126 (Fb.sp Fb):=by
 refine ⟨Neg.ok.enter,fun vs bl v bl' hs=>Neg.ok.run vs bl v bl' ?_⟩
 unfold Fb.sp at hs
 split at hs
 ·rw [←hs]; rfl
 ·cases hs
def dmI (n:Bool) (s:ByteArray) (m:Bool) (t:ByteArray):Int×Int×Int:=bif vld n s&&vld m t then (bif bv t.data.toList==0 then (0,0,10) else (fq (vl n s) (vl m t),fr (vl n s) (vl m t),0)) else (0,0,1)
def Es (n:Bool) (s:ByteArray) (m:Bool) (t:ByteArray):Bool×ByteArray×Bool×ByteArray×Int:=
 ((dI (dmI n s m t).1).1,(dI (dmI n s m t).1).2,(dI (dmI n s m t).2.1).1,(dI (dmI n s m t).2.1).2,(dmI n s m t).2.2)
def Es.pre (n:Bool) (s:ByteArray) (m:Bool) (t:ByteArray):Bool:=szM s&&szM t
theorem Es.ok:SOK Tryz.prog 139 (Es.sp Es Es.pre):=by
 refine ⟨DivMod.ok.enter,fun vs bl v bl' hs=>DivMod.ok.run vs bl v bl' ?_⟩
 unfold Es.sp at hs
 split at hs
 ·rename_i n s m t
  rw [←hs]
  show some (_,dmV n s m t,_)=_
  unfold dmV Es Es.pre dmI
  cases vld n s&&vld m t with
  |false=>rfl
  | true=>
   simp only [cond_true]
   cases bv t.data.toList==0<;>rfl
 ·cases hs
@[simp] theorem vld_dI (z:Int):vld (dI z).1 (dI z).2=true:=JX z
@[simp] theorem ID (z:Int):vl (dI z).1 (dI z).2=z:=Lz z
theorem TU {n:Bool} {s:ByteArray} (h:vld n s=true):dI (vl n s)=(n,s):=by
 have:=iI_vl h
 unfold iI at this
 simp only [Value.agg.injEq,Array.mk.injEq,List.cons.injEq,Value.bool.injEq,Value.string.injEq,and_true] at this
 unfold dI
 rw [this.1,this.2]
theorem dI_inj {a b:Int} (h:dI a=dI b):a=b:=by rw [←ID a,h,ID]
theorem MS:dI 0=(false,(⟨#[]⟩:ByteArray)):=rfl
theorem Gj (a b:Int):Ch (dI a).1 (dI a).2 (dI b).1 (dI b).2=dI (a*b):=by simp [Ch]
theorem Iu (a b:Int):Ed (dI a).1 (dI a).2 (dI b).1 (dI b).2=dI (a+b):=by simp [Ed]
theorem NY (a b:Int):Fp (dI a).1 (dI a).2 (dI b).1 (dI b).2=dI (a-b):=by simp [Fp]
theorem NZ (a b:Int):Fq (dI a).1 (dI a).2 (dI b).1 (dI b).2=dI ((Int.gcd a b:Nat):Int):=by simp [Fq]
theorem Na (a b:Int):Fs (dI a).1 (dI a).2 (dI b).1 (dI b).2=sgn (a-b):=by simp [Fs]
theorem MA (a:Int):Fz (dI a).1 (dI a).2=true:=by simp [Fz]
theorem Hy (a:Int):Eu (dI a).1 (dI a).2=sgn a:=by simp [Eu]
theorem It (a:Int):Fb (dI a).1 (dI a).2=dI (-a):=by simp [Fb]
theorem bv_dI (z:Int):bv (dI z).2.data.toList=(z.natAbs:Int):=QK (by omega)
theorem Lx {a b:Int} (hb:b≠0):Es (dI a).1 (dI a).2 (dI b).1 (dI b).2=((dI (fq a b)).1,(dI (fq a b)).2,(dI (fr a b)).1,(dI (fr a b)).2,0):=by
 have h:(bv (dI b).2.data.toList==0)=false:=by rw [bv_dI,beq_eq_false_iff_ne]; omega
 simp [Es,dmI,h]
theorem TK (z:Int):((dI z).2.toList==(⟨#[]⟩:ByteArray).toList)=(z==0):=by
 have h1:=HY (enc (z.natAbs:Int))
 rw [HI (by omega)] at h1
 show ((str (enc (z.natAbs:Int))).toList==_)=_
 rw [h1]
 by_cases hz:z=0
 ·subst hz; rfl
 ·rw [Fa hz,Fa (by omega)]
theorem LA (a b:Int):((dI a).1==(dI b).1&&(dI a).2.toList==(dI b).2.toList)=(a==b):=by
 by_cases h:a=b
 ·subst h; simp
 ·rw [Fa h]
  cases hc:((dI a).1==(dI b).1&&(dI a).2.toList==(dI b).2.toList) with
  |false=>rfl
  | true=>
   simp only [zB,beq_iff_eq] at hc
   have h2:(dI a).2=(dI b).2:=by
    have:((dI a).2==(dI b).2)=true:=by rw [JR,hc.2]; simp
    exact ByteArray.ext (eq_of_beq (show ((dI a).2.data==(dI b).2.data)=true from this))
   exact absurd (dI_inj (Prod.ext hc.1 h2)) h
def Bd (k:Nat) (z:Int):Prop:=(z.natAbs:Int)<p8 k
theorem Bd.mono {j k:Nat} {z:Int} (h:Bd j z) (hk:j≤k):Bd k z:=Int.lt_of_lt_of_le h (HA hk)
theorem Il {k:Nat} {z:Int} (h:Bd k z):(dI z).2.size≤k:=NI (by omega) h
theorem Iv {k:Nat} {z:Int} (h:Bd k z) (hk:k≤4294967296):szM (dI z).2=true:=by
 have:=Il h
 simp only [szM,Nat.ble_eq]; omega
theorem IK {k:Nat} {z:Int} (h:Bd k z) (hk:k≤8589934592):szOk (dI z).2=true:=by
 have:=Il h
 simp only [szOk,Nat.ble_eq]; omega
theorem Bd.zero (k:Nat):Bd k 0:=Hk k
theorem Bd.one {k:Nat} (h:1≤k):Bd k 1:=(show Bd 1 1 from by unfold Bd; decide).mono h
theorem Bd.neg {k:Nat} {z:Int} (h:Bd k z):Bd k (-z):=by unfold Bd at h ⊢; rw [Int.natAbs_neg]; exact h
theorem Bd.mul {j k:Nat} {a b:Int} (ha:Bd j a) (hb:Bd k b):Bd (j+k) (a*b):=by
 unfold Bd at ha hb ⊢
 rw [Int.natAbs_mul,Int.natCast_mul,LZ]
 have h1:=Hk j
 have h2:=Hk k
 have e1:(a.natAbs:Int)*b.natAbs≤(p8 j-1)*b.natAbs:=Int.mul_le_mul_of_nonneg_right (by omega) (by omega)
 have e2:(p8 j-1)*(b.natAbs:Int)≤(p8 j-1)*p8 k:=Int.mul_le_mul_of_nonneg_left (by omega) (by omega)
 have e3:(p8 j-1)*p8 k=p8 j*p8 k-p8 k:=by rw [Int.sub_mul,Int.one_mul]
 omega
theorem Bd.add {k:Nat} {a b:Int} (ha:Bd k a) (hb:Bd k b):Bd (k+1) (a+b):=by
 unfold Bd at ha hb ⊢
 rw [Ih]
 have:=Hk k
 omega
theorem Bd.le {k:Nat} {a b:Int} (hb:Bd k b) (h:a.natAbs≤b.natAbs):Bd k a:=by
 unfold Bd at hb ⊢
 omega
end Go.Proofs.YtphlckkbihmlnaaGreatDoor.G
end
