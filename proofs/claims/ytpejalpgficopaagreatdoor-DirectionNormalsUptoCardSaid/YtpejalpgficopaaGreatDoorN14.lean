/- A part of what the law's proof leans on. PACKED BY pack.py of this repo. -/
import Derived.Test.YtpejalpgficopaaGreatDoorN13
set_option linter.unusedVariables false
set_option linter.unusedSimpArgs false
set_option linter.defProp false
set_option linter.unusedSectionVars false
section
namespace Go.Proofs.YtpejalpgficopaaGreatDoor.G
set_option maxRecDepth 100000
open Go Go.Proofs Go.RowKit RX
section
variable {R:Type} (DY:TF5 (Bool)) (DV:TF5 Bool) (A3:Bool) (A2:ByteArray) (A6:Bool) (A5:ByteArray) (A4:Bool) (A9:ByteArray) (A8:Bool) (A7:ByteArray) (AB:Bool) (AA:ByteArray) (B5:Bool) (B4:ByteArray) (B3:Bool) (B2:ByteArray) (AZ:Bool) (AY:ByteArray) (AX:Bool) (AW:ByteArray) (AV:Bool) (AU:ByteArray) (AT:Bool) (AS:ByteArray) (AR:Bool) (AQ:ByteArray) (AP:Bool) (AO:ByteArray) (AN:Bool) (AM:ByteArray) (AL:Bool) (AK:ByteArray) (BJ:Bool) (BI:ByteArray) (BH:Bool) (BG:ByteArray) (BF:Bool) (BE:ByteArray) (BD:Bool) (BC:ByteArray) (BB:Bool) (BA:ByteArray)
noncomputable def culetlaw28_few.K (k:(Bool)→Option R):Option R:=
 let t0:=DV A3 A2 A6 A5 A4 A9 A8 A7 AB AA
 bif t0 then
 let t1:=DY A3 A2 A6 A5 A4 A9 A8 A7 AB AA
 bif t1 then
 let t2:=DV B5 B4 B3 B2 AZ AY AX AW AV AU
 bif t2 then
 let t3:=DY B5 B4 B3 B2 AZ AY AX AW AV AU
 bif t3 then
 let t4:=DV AT AS AR AQ AP AO AN AM AL AK
 bif t4 then
 let t5:=DY AT AS AR AQ AP AO AN AM AL AK
 bif t5 then
 let t6:=DV BJ BI BH BG BF BE BD BC BB BA
 bif t6 then
 let t7:=DY BJ BI BH BG BF BE BD BC BB BA
 k (t7) else none else k (false) else none else k (false) else none else k (false) else none
theorem culetlaw28_few.run:xfn Tryz.prog ⟨[(50,culetref02_Few.sp DY DV)],[],[]⟩ [] 60 Tryz.f11 [.agg ⟨.bool A3:: .string A2:: .bool A6:: .string A5:: .bool A4:: .string A9:: .bool A8:: .string A7:: .bool AB:: .string AA:: .bool B5:: .string B4:: .bool B3:: .string B2:: .bool AZ:: .string AY:: .bool AX:: .string AW:: .bool AV:: .string AU:: .bool AT:: .string AS:: .bool AR:: .string AQ:: .bool AP:: .string AO:: .bool AN:: .string AM:: .bool AL:: .string AK:: .bool BJ:: .string BI:: .bool BH:: .string BG:: .bool BF:: .string BE:: .bool BD:: .string BC:: .bool BB:: .string BA::[]⟩] []=culetlaw28_few.K DY DV A3 A2 A6 A5 A4 A9 A8 A7 AB AA B5 B4 B3 B2 AZ AY AX AW AV AU AT AS AR AQ AP AO AN AM AL AK BJ BI BH BG BF BE BD BC BB BA (fun r=>some (.bool r,[])):=by kernel_rfl
noncomputable def culetlaw28_few.o:Option (Bool):=culetlaw28_few.K culetref02_Few culetref02_Few.pre A3 A2 A6 A5 A4 A9 A8 A7 AB AA B5 B4 B3 B2 AZ AY AX AW AV AU AT AS AR AQ AP AO AN AM AL AK BJ BI BH BG BF BE BD BC BB BA some
noncomputable def culetlaw28_few.pre:Bool:=(culetlaw28_few.o A3 A2 A6 A5 A4 A9 A8 A7 AB AA B5 B4 B3 B2 AZ AY AX AW AV AU AT AS AR AQ AP AO AN AM AL AK BJ BI BH BG BF BE BD BC BB BA).isSome
noncomputable def culetlaw28_few:Bool:=(culetlaw28_few.o A3 A2 A6 A5 A4 A9 A8 A7 AB AA B5 B4 B3 B2 AZ AY AX AW AV AU AT AS AR AQ AP AO AN AM AL AK BJ BI BH BG BF BE BD BC BB BA).getD default
theorem culetlaw28_few.nat (k:(Bool)→Option R):culetlaw28_few.K DY DV A3 A2 A6 A5 A4 A9 A8 A7 AB AA B5 B4 B3 B2 AZ AY AX AW AV AU AT AS AR AQ AP AO AN AM AL AK BJ BI BH BG BF BE BD BC BB BA k=(culetlaw28_few.K DY DV A3 A2 A6 A5 A4 A9 A8 A7 AB AA B5 B4 B3 B2 AZ AY AX AW AV AU AT AS AR AQ AP AO AN AM AL AK BJ BI BH BG BF BE BD BC BB BA some).bind k:=by
 simp only [culetlaw28_few.K,bcond,Option.bind_some,Option.bind_none]
end
theorem culetlaw28_few.ok:SOK Tryz.prog 11 (culetlaw28_few.sp culetlaw28_few culetlaw28_few.pre):=by
 refine sok_of (E:=⟨[(50,culetref02_Few.sp culetref02_Few culetref02_Few.pre)],[],[]⟩) (L:=[]) ⟨(specs_cons culetref02_Few.ok specs_nil),inl_nil,mixed_ok,lps_nil⟩ 60 Tryz.func11 (by decide) rfl no_loops fun vs bl v bl' h=> ?_
 unfold culetlaw28_few.sp at h
 split at h
 ·rename_i A3 A2 A6 A5 A4 A9 A8 A7 AB AA B5 B4 B3 B2 AZ AY AX AW AV AU AT AS AR AQ AP AO AN AM AL AK BJ BI BH BG BF BE BD BC BB BA
  simp only [Option.some.injEq,Prod.mk.injEq] at h
  obtain ⟨hp,rfl,rfl⟩:=h
  have hr:=culetlaw28_few.run culetref02_Few culetref02_Few.pre A3 A2 A6 A5 A4 A9 A8 A7 AB AA B5 B4 B3 B2 AZ AY AX AW AV AU AT AS AR AQ AP AO AN AM AL AK BJ BI BH BG BF BE BD BC BB BA
  rw [culetlaw28_few.nat] at hr
  obtain ⟨r,h2⟩:=Option.isSome_iff_exists.1 (hp:(culetlaw28_few.o A3 A2 A6 A5 A4 A9 A8 A7 AB AA B5 B4 B3 B2 AZ AY AX AW AV AU AT AS AR AQ AP AO AN AM AL AK BJ BI BH BG BF BE BD BC BB BA).isSome=true)
  have h3:culetlaw28_few A3 A2 A6 A5 A4 A9 A8 A7 AB AA B5 B4 B3 B2 AZ AY AX AW AV AU AT AS AR AQ AP AO AN AM AL AK BJ BI BH BG BF BE BD BC BB BA=r:=by unfold culetlaw28_few; rw [h2]; rfl
  have h4:culetlaw28_few.K culetref02_Few culetref02_Few.pre A3 A2 A6 A5 A4 A9 A8 A7 AB AA B5 B4 B3 B2 AZ AY AX AW AV AU AT AS AR AQ AP AO AN AM AL AK BJ BI BH BG BF BE BD BC BB BA some=some r:=h2
  rw [h4,Option.bind_some] at hr
  rw [h3]
  exact ⟨hr,by simp [okV,Nat.blt],clo_spec 8 _ (by kernel_rfl),told_blk (by kernel_rfl)⟩
 ·cases h
section
variable {R:Type} (BL:Int→(TY5)) (BK:Int→Bool) (a0:Int) (a1:Int) (a2:Int)
noncomputable def vector_Of.K (k:TY15→Option R):Option R:=
 let t0:=BK a0
 bif t0 then
 let t1:=BK a1
 bif t1 then
 let t2:=BK a2
 bif t2 then
 let t3:=BL a0
 let t4:=BL a1
 let t5:=BL a2
 k (t3.1,t3.2.1,t3.2.2.1,t3.2.2.2.1,t3.2.2.2.2.1,t3.2.2.2.2.2.1,t3.2.2.2.2.2.2.1,t3.2.2.2.2.2.2.2.1,t3.2.2.2.2.2.2.2.2.1,t3.2.2.2.2.2.2.2.2.2,t4.1,t4.2.1,t4.2.2.1,t4.2.2.2.1,t4.2.2.2.2.1,t4.2.2.2.2.2.1,t4.2.2.2.2.2.2.1,t4.2.2.2.2.2.2.2.1,t4.2.2.2.2.2.2.2.2.1,t4.2.2.2.2.2.2.2.2.2,t5.1,t5.2.1,t5.2.2.1,t5.2.2.2.1,t5.2.2.2.2.1,t5.2.2.2.2.2.1,t5.2.2.2.2.2.2.1,t5.2.2.2.2.2.2.2.1,t5.2.2.2.2.2.2.2.2.1,t5.2.2.2.2.2.2.2.2.2) else none else none else none
theorem vector_Of.run:xfn Tryz.prog ⟨[(114,field_Of.sp BL BK)],[],[]⟩ [] 60 Tryz.f156 [.int .i64 a0,.int .i64 a1,.int .i64 a2] []=vector_Of.K BL BK a0 a1 a2 (fun r=>some (.agg ⟨[.bool r.1,.string r.2.1,.bool r.2.2.1,.string r.2.2.2.1,.bool r.2.2.2.2.1,.string r.2.2.2.2.2.1,.bool r.2.2.2.2.2.2.1,.string r.2.2.2.2.2.2.2.1,.bool r.2.2.2.2.2.2.2.2.1,.string r.2.2.2.2.2.2.2.2.2.1,.bool r.2.2.2.2.2.2.2.2.2.2.1,.string r.2.2.2.2.2.2.2.2.2.2.2.1,.bool r.2.2.2.2.2.2.2.2.2.2.2.2.1,.string r.2.2.2.2.2.2.2.2.2.2.2.2.2.1,.bool r.2.2.2.2.2.2.2.2.2.2.2.2.2.2.1,.string r.2.2.2.2.2.2.2.2.2.2.2.2.2.2.2.1,.bool r.2.2.2.2.2.2.2.2.2.2.2.2.2.2.2.2.1,.string r.2.2.2.2.2.2.2.2.2.2.2.2.2.2.2.2.2.1,.bool r.2.2.2.2.2.2.2.2.2.2.2.2.2.2.2.2.2.2.1,.string r.2.2.2.2.2.2.2.2.2.2.2.2.2.2.2.2.2.2.2.1,.bool r.2.2.2.2.2.2.2.2.2.2.2.2.2.2.2.2.2.2.2.2.1,.string r.2.2.2.2.2.2.2.2.2.2.2.2.2.2.2.2.2.2.2.2.2.1,.bool r.2.2.2.2.2.2.2.2.2.2.2.2.2.2.2.2.2.2.2.2.2.2.1,.string r.2.2.2.2.2.2.2.2.2.2.2.2.2.2.2.2.2.2.2.2.2.2.2.1,.bool r.2.2.2.2.2.2.2.2.2.2.2.2.2.2.2.2.2.2.2.2.2.2.2.2.1,.string r.2.2.2.2.2.2.2.2.2.2.2.2.2.2.2.2.2.2.2.2.2.2.2.2.2.1,.bool r.2.2.2.2.2.2.2.2.2.2.2.2.2.2.2.2.2.2.2.2.2.2.2.2.2.2.1,.string r.2.2.2.2.2.2.2.2.2.2.2.2.2.2.2.2.2.2.2.2.2.2.2.2.2.2.2.1,.bool r.2.2.2.2.2.2.2.2.2.2.2.2.2.2.2.2.2.2.2.2.2.2.2.2.2.2.2.2.1,.string r.2.2.2.2.2.2.2.2.2.2.2.2.2.2.2.2.2.2.2.2.2.2.2.2.2.2.2.2.2]⟩,[])):=by kernel_rfl
noncomputable def vector_Of.o:Option (TY15):=vector_Of.K field_Of field_Of.pre a0 a1 a2 some
noncomputable def vector_Of.pre:Bool:=(vector_Of.o a0 a1 a2).isSome
noncomputable def vector_Of:TY15:=(vector_Of.o a0 a1 a2).getD default
theorem vector_Of.nat (k:TY15→Option R):vector_Of.K BL BK a0 a1 a2 k=(vector_Of.K BL BK a0 a1 a2 some).bind k:=by
 simp only [vector_Of.K,bcond,Option.bind_some,Option.bind_none]
end
theorem vector_Of.os:vector_Of.o 0 0 0=some ((dI (qof 0).c0).1,(dI (qof 0).c0).2,(dI (qof 0).c1).1,(dI (qof 0).c1).2,(dI (qof 0).c2).1,(dI (qof 0).c2).2,(dI (qof 0).c3).1,(dI (qof 0).c3).2,(dI (qof 0).d).1,(dI (qof 0).d).2,(dI (qof 0).c0).1,(dI (qof 0).c0).2,(dI (qof 0).c1).1,(dI (qof 0).c1).2,(dI (qof 0).c2).1,(dI (qof 0).c2).2,(dI (qof 0).c3).1,(dI (qof 0).c3).2,(dI (qof 0).d).1,(dI (qof 0).d).2,(dI (qof 0).c0).1,(dI (qof 0).c0).2,(dI (qof 0).c1).1,(dI (qof 0).c1).2,(dI (qof 0).c2).1,(dI (qof 0).c2).2,(dI (qof 0).c3).1,(dI (qof 0).c3).2,(dI (qof 0).d).1,(dI (qof 0).d).2):=by
 have p:=field_Of.ps (n:=0) (by decide) (by decide)
 have e:=field_Of.es (n:=0) (by decide) (by decide)
 simp only [vector_Of.o,vector_Of.K,p,e,cond_true]
 rfl
theorem vector_Of.ps:vector_Of.pre 0 0 0=true:=isSome_of vector_Of.os
theorem vector_Of.es:vector_Of 0 0 0=((dI (qof 0).c0).1,(dI (qof 0).c0).2,(dI (qof 0).c1).1,(dI (qof 0).c1).2,(dI (qof 0).c2).1,(dI (qof 0).c2).2,(dI (qof 0).c3).1,(dI (qof 0).c3).2,(dI (qof 0).d).1,(dI (qof 0).d).2,(dI (qof 0).c0).1,(dI (qof 0).c0).2,(dI (qof 0).c1).1,(dI (qof 0).c1).2,(dI (qof 0).c2).1,(dI (qof 0).c2).2,(dI (qof 0).c3).1,(dI (qof 0).c3).2,(dI (qof 0).d).1,(dI (qof 0).d).2,(dI (qof 0).c0).1,(dI (qof 0).c0).2,(dI (qof 0).c1).1,(dI (qof 0).c1).2,(dI (qof 0).c2).1,(dI (qof 0).c2).2,(dI (qof 0).c3).1,(dI (qof 0).c3).2,(dI (qof 0).d).1,(dI (qof 0).d).2):=getD_of vector_Of.os
theorem vector_Of.ok:SOK Tryz.prog 156 (vector_Of.sp vector_Of vector_Of.pre):=by
 refine sok_of (E:=⟨[(114,field_Of.sp field_Of field_Of.pre)],[],[]⟩) (L:=[]) ⟨(specs_cons field_Of.ok specs_nil),inl_nil,mixed_ok,lps_nil⟩ 60 Tryz.func156 (by decide) rfl no_loops fun vs bl v bl' h=> ?_
 unfold vector_Of.sp at h
 split at h
 ·rename_i a0 a1 a2
  simp only [Option.some.injEq,Prod.mk.injEq] at h
  obtain ⟨hp,rfl,rfl⟩:=h
  have hr:=vector_Of.run field_Of field_Of.pre a0 a1 a2
  rw [vector_Of.nat] at hr
  obtain ⟨r,h2⟩:=Option.isSome_iff_exists.1 (hp:(vector_Of.o a0 a1 a2).isSome=true)
  have h3:vector_Of a0 a1 a2=r:=by unfold vector_Of; rw [h2]; rfl
  have h4:vector_Of.K field_Of field_Of.pre a0 a1 a2 some=some r:=h2
  rw [h4,Option.bind_some] at hr
  rw [h3]
  exact ⟨hr,by simp [okV,Nat.blt],clo_spec 8 _ (by kernel_rfl),told_blk (by kernel_rfl)⟩
 ·cases h
section
variable {R:Type} (F0:Int→Int→Int→(TY15)) (EW:Int→Int→Int→Bool) (A3:Bool) (A2:ByteArray) (A6:Bool) (A5:ByteArray) (A4:Bool) (A9:ByteArray) (A8:Bool) (A7:ByteArray) (AB:Bool) (AA:ByteArray) (B5:Bool) (B4:ByteArray) (B3:Bool) (B2:ByteArray) (AZ:Bool) (AY:ByteArray) (AX:Bool) (AW:ByteArray) (AV:Bool) (AU:ByteArray) (AT:Bool) (AS:ByteArray) (AR:Bool) (AQ:ByteArray) (AP:Bool) (AO:ByteArray) (AN:Bool) (AM:ByteArray) (AL:Bool) (AK:ByteArray)
noncomputable def vector_Zero.K (k:(Bool)→Option R):Option R:=
 let t0:=EW 0 0 0
 bif t0 then
 let t1:=F0 0 0 0
 k (A3==t1.1&&A2.toList==t1.2.1.toList&&(A6==t1.2.2.1&&A5.toList==t1.2.2.2.1.toList&&(A4==t1.2.2.2.2.1&&A9.toList==t1.2.2.2.2.2.1.toList&&(A8==t1.2.2.2.2.2.2.1&&A7.toList==t1.2.2.2.2.2.2.2.1.toList)))&&(AB==t1.2.2.2.2.2.2.2.2.1&&AA.toList==t1.2.2.2.2.2.2.2.2.2.1.toList)&&(B5==t1.2.2.2.2.2.2.2.2.2.2.1&&B4.toList==t1.2.2.2.2.2.2.2.2.2.2.2.1.toList&&(B3==t1.2.2.2.2.2.2.2.2.2.2.2.2.1&&B2.toList==t1.2.2.2.2.2.2.2.2.2.2.2.2.2.1.toList&&(AZ==t1.2.2.2.2.2.2.2.2.2.2.2.2.2.2.1&&AY.toList==t1.2.2.2.2.2.2.2.2.2.2.2.2.2.2.2.1.toList&&(AX==t1.2.2.2.2.2.2.2.2.2.2.2.2.2.2.2.2.1&&AW.toList==t1.2.2.2.2.2.2.2.2.2.2.2.2.2.2.2.2.2.1.toList)))&&(AV==t1.2.2.2.2.2.2.2.2.2.2.2.2.2.2.2.2.2.2.1&&AU.toList==t1.2.2.2.2.2.2.2.2.2.2.2.2.2.2.2.2.2.2.2.1.toList)&&(AT==t1.2.2.2.2.2.2.2.2.2.2.2.2.2.2.2.2.2.2.2.2.1&&AS.toList==t1.2.2.2.2.2.2.2.2.2.2.2.2.2.2.2.2.2.2.2.2.2.1.toList&&(AR==t1.2.2.2.2.2.2.2.2.2.2.2.2.2.2.2.2.2.2.2.2.2.2.1&&AQ.toList==t1.2.2.2.2.2.2.2.2.2.2.2.2.2.2.2.2.2.2.2.2.2.2.2.1.toList&&(AP==t1.2.2.2.2.2.2.2.2.2.2.2.2.2.2.2.2.2.2.2.2.2.2.2.2.1&&AO.toList==t1.2.2.2.2.2.2.2.2.2.2.2.2.2.2.2.2.2.2.2.2.2.2.2.2.2.1.toList&&(AN==t1.2.2.2.2.2.2.2.2.2.2.2.2.2.2.2.2.2.2.2.2.2.2.2.2.2.2.1&&AM.toList==t1.2.2.2.2.2.2.2.2.2.2.2.2.2.2.2.2.2.2.2.2.2.2.2.2.2.2.2.1.toList)))&&(AL==t1.2.2.2.2.2.2.2.2.2.2.2.2.2.2.2.2.2.2.2.2.2.2.2.2.2.2.2.2.1&&AK.toList==t1.2.2.2.2.2.2.2.2.2.2.2.2.2.2.2.2.2.2.2.2.2.2.2.2.2.2.2.2.2.toList)))) else none
theorem vector_Zero.run:xfn Tryz.prog ⟨[(156,vector_Of.sp F0 EW)],[],[]⟩ [] 60 Tryz.f108 [.agg ⟨[.bool A3,.string A2,.bool A6,.string A5,.bool A4,.string A9,.bool A8,.string A7,.bool AB,.string AA,.bool B5,.string B4,.bool B3,.string B2,.bool AZ,.string AY,.bool AX,.string AW,.bool AV,.string AU,.bool AT,.string AS,.bool AR,.string AQ,.bool AP,.string AO,.bool AN,.string AM,.bool AL,.string AK]⟩] []=vector_Zero.K F0 EW A3 A2 A6 A5 A4 A9 A8 A7 AB AA B5 B4 B3 B2 AZ AY AX AW AV AU AT AS AR AQ AP AO AN AM AL AK (fun r=>some (.bool r,[])):=by kernel_rfl
noncomputable def vector_Zero.o:Option (Bool):=vector_Zero.K vector_Of vector_Of.pre A3 A2 A6 A5 A4 A9 A8 A7 AB AA B5 B4 B3 B2 AZ AY AX AW AV AU AT AS AR AQ AP AO AN AM AL AK some
noncomputable def vector_Zero.pre:Bool:=(vector_Zero.o A3 A2 A6 A5 A4 A9 A8 A7 AB AA B5 B4 B3 B2 AZ AY AX AW AV AU AT AS AR AQ AP AO AN AM AL AK).isSome
noncomputable def vector_Zero:Bool:=(vector_Zero.o A3 A2 A6 A5 A4 A9 A8 A7 AB AA B5 B4 B3 B2 AZ AY AX AW AV AU AT AS AR AQ AP AO AN AM AL AK).getD default
theorem vector_Zero.nat (k:(Bool)→Option R):vector_Zero.K F0 EW A3 A2 A6 A5 A4 A9 A8 A7 AB AA B5 B4 B3 B2 AZ AY AX AW AV AU AT AS AR AQ AP AO AN AM AL AK k=(vector_Zero.K F0 EW A3 A2 A6 A5 A4 A9 A8 A7 AB AA B5 B4 B3 B2 AZ AY AX AW AV AU AT AS AR AQ AP AO AN AM AL AK some).bind k:=by
 simp only [vector_Zero.K,bcond,Option.bind_some,Option.bind_none]
theorem vector_Zero.os {x y z:Q} (ox:x.ok=true) (oy:y.ok=true) (oz:z.ok=true):vector_Zero.o (dI x.c0).1 (dI x.c0).2 (dI x.c1).1 (dI x.c1).2 (dI x.c2).1 (dI x.c2).2 (dI x.c3).1 (dI x.c3).2 (dI x.d).1 (dI x.d).2 (dI y.c0).1 (dI y.c0).2 (dI y.c1).1 (dI y.c1).2 (dI y.c2).1 (dI y.c2).2 (dI y.c3).1 (dI y.c3).2 (dI y.d).1 (dI y.d).2 (dI z.c0).1 (dI z.c0).2 (dI z.c1).1 (dI z.c1).2 (dI z.c2).1 (dI z.c2).2 (dI z.c3).1 (dI z.c3).2 (dI z.d).1 (dI z.d).2=some (x.nul&&(y.nul&&z.nul)):=by
 have e:∀ {w:Q},w.ok=true→(w.c0==0&&(w.c1==0&&(w.c2==0&&w.c3==0))&&w.d==1)=w.nul:=fun {w} ow=>by
  cases hn:w.nul with
  |true=>rw [nul_d ow hn]; rfl
  | false=>
   have:(w.c0==0&&(w.c1==0&&(w.c2==0&&w.c3==0)))=w.nul:=by unfold Q.nul; simp only [Bool.and_assoc]
   rw [this,hn]; rfl
 have z0:(qof 0).c0=0∧(qof 0).c1=0∧(qof 0).c2=0∧(qof 0).c3=0∧(qof 0).d=1:=⟨rfl,rfl,rfl,rfl,rfl⟩
 simp only [vector_Zero.o,vector_Zero.K,vector_Of.ps,vector_Of.es,cond_true,eq_dI,z0.1,z0.2.1,z0.2.2.1,z0.2.2.2.1,z0.2.2.2.2]
 rw [←e ox,←e oy,←e oz]
theorem vector_Zero.ps {x y z:Q} (ox:x.ok=true) (oy:y.ok=true) (oz:z.ok=true):vector_Zero.pre (dI x.c0).1 (dI x.c0).2 (dI x.c1).1 (dI x.c1).2 (dI x.c2).1 (dI x.c2).2 (dI x.c3).1 (dI x.c3).2 (dI x.d).1 (dI x.d).2 (dI y.c0).1 (dI y.c0).2 (dI y.c1).1 (dI y.c1).2 (dI y.c2).1 (dI y.c2).2 (dI y.c3).1 (dI y.c3).2 (dI y.d).1 (dI y.d).2 (dI z.c0).1 (dI z.c0).2 (dI z.c1).1 (dI z.c1).2 (dI z.c2).1 (dI z.c2).2 (dI z.c3).1 (dI z.c3).2 (dI z.d).1 (dI z.d).2=true:=isSome_of (vector_Zero.os ox oy oz)
theorem vector_Zero.es {x y z:Q} (ox:x.ok=true) (oy:y.ok=true) (oz:z.ok=true):vector_Zero (dI x.c0).1 (dI x.c0).2 (dI x.c1).1 (dI x.c1).2 (dI x.c2).1 (dI x.c2).2 (dI x.c3).1 (dI x.c3).2 (dI x.d).1 (dI x.d).2 (dI y.c0).1 (dI y.c0).2 (dI y.c1).1 (dI y.c1).2 (dI y.c2).1 (dI y.c2).2 (dI y.c3).1 (dI y.c3).2 (dI y.d).1 (dI y.d).2 (dI z.c0).1 (dI z.c0).2 (dI z.c1).1 (dI z.c1).2 (dI z.c2).1 (dI z.c2).2 (dI z.c3).1 (dI z.c3).2 (dI z.d).1 (dI z.d).2=(x.nul&&(y.nul&&z.nul)):=getD_of (vector_Zero.os ox oy oz)
end
theorem vector_Zero.ok:SOK Tryz.prog 108 (vector_Zero.sp vector_Zero vector_Zero.pre):=by
 refine sok_of (E:=⟨[(156,vector_Of.sp vector_Of vector_Of.pre)],[],[]⟩) (L:=[]) ⟨(specs_cons vector_Of.ok specs_nil),inl_nil,mixed_ok,lps_nil⟩ 60 Tryz.func108 (by decide) rfl no_loops fun vs bl v bl' h=> ?_
 unfold vector_Zero.sp at h
 split at h
 ·rename_i A3 A2 A6 A5 A4 A9 A8 A7 AB AA B5 B4 B3 B2 AZ AY AX AW AV AU AT AS AR AQ AP AO AN AM AL AK
  simp only [Option.some.injEq,Prod.mk.injEq] at h
  obtain ⟨hp,rfl,rfl⟩:=h
  have hr:=vector_Zero.run vector_Of vector_Of.pre A3 A2 A6 A5 A4 A9 A8 A7 AB AA B5 B4 B3 B2 AZ AY AX AW AV AU AT AS AR AQ AP AO AN AM AL AK
  rw [vector_Zero.nat] at hr
  obtain ⟨r,h2⟩:=Option.isSome_iff_exists.1 (hp:(vector_Zero.o A3 A2 A6 A5 A4 A9 A8 A7 AB AA B5 B4 B3 B2 AZ AY AX AW AV AU AT AS AR AQ AP AO AN AM AL AK).isSome=true)
  have h3:vector_Zero A3 A2 A6 A5 A4 A9 A8 A7 AB AA B5 B4 B3 B2 AZ AY AX AW AV AU AT AS AR AQ AP AO AN AM AL AK=r:=by unfold vector_Zero; rw [h2]; rfl
  have h4:vector_Zero.K vector_Of vector_Of.pre A3 A2 A6 A5 A4 A9 A8 A7 AB AA B5 B4 B3 B2 AZ AY AX AW AV AU AT AS AR AQ AP AO AN AM AL AK some=some r:=h2
  rw [h4,Option.bind_some] at hr
  rw [h3]
  exact ⟨hr,by simp [okV,Nat.blt],clo_spec 8 _ (by kernel_rfl),told_blk (by kernel_rfl)⟩
 ·cases h
section
variable {R:Type} (CO:TF15 (Bool)) (CN:TF15 Bool) (ER:TF15 (Bool)) (EQ:TF15 Bool) (BN:TF5 (Bool)) (BM:TF5 Bool) (A3:Bool) (A2:ByteArray) (A6:Bool) (A5:ByteArray) (A4:Bool) (A9:ByteArray) (A8:Bool) (A7:ByteArray) (AB:Bool) (AA:ByteArray) (B5:Bool) (B4:ByteArray) (B3:Bool) (B2:ByteArray) (AZ:Bool) (AY:ByteArray) (AX:Bool) (AW:ByteArray) (AV:Bool) (AU:ByteArray) (AT:Bool) (AS:ByteArray) (AR:Bool) (AQ:ByteArray) (AP:Bool) (AO:ByteArray) (AN:Bool) (AM:ByteArray) (AL:Bool) (AK:ByteArray) (BJ:Bool) (BI:ByteArray) (BH:Bool) (BG:ByteArray) (BF:Bool) (BE:ByteArray) (BD:Bool) (BC:ByteArray) (BB:Bool) (BA:ByteArray)
noncomputable def plane_Valid.K (k:(Bool)→Option R):Option R:=
 let t0:=CN A3 A2 A6 A5 A4 A9 A8 A7 AB AA B5 B4 B3 B2 AZ AY AX AW AV AU AT AS AR AQ AP AO AN AM AL AK
 bif t0 then
 let t1:=CO A3 A2 A6 A5 A4 A9 A8 A7 AB AA B5 B4 B3 B2 AZ AY AX AW AV AU AT AS AR AQ AP AO AN AM AL AK
 bif t1 then
 let t2:=EQ A3 A2 A6 A5 A4 A9 A8 A7 AB AA B5 B4 B3 B2 AZ AY AX AW AV AU AT AS AR AQ AP AO AN AM AL AK
 bif t2 then
 let t3:=ER A3 A2 A6 A5 A4 A9 A8 A7 AB AA B5 B4 B3 B2 AZ AY AX AW AV AU AT AS AR AQ AP AO AN AM AL AK
 bif !t3 then
 let t4:=BM BJ BI BH BG BF BE BD BC BB BA
 bif t4 then
 let t5:=BN BJ BI BH BG BF BE BD BC BB BA
 k (t5) else none else k (false) else none else k (false) else none
theorem plane_Valid.run:xfn Tryz.prog ⟨[(83,vector_Valid.sp CO CN),(108,vector_Zero.sp ER EQ),(109,field_Valid.sp BN BM)],[],[]⟩ [] 60 Tryz.f60 [.agg ⟨.bool A3:: .string A2:: .bool A6:: .string A5:: .bool A4:: .string A9:: .bool A8:: .string A7:: .bool AB:: .string AA:: .bool B5:: .string B4:: .bool B3:: .string B2:: .bool AZ:: .string AY:: .bool AX:: .string AW:: .bool AV:: .string AU:: .bool AT:: .string AS:: .bool AR:: .string AQ:: .bool AP:: .string AO:: .bool AN:: .string AM:: .bool AL:: .string AK:: .bool BJ:: .string BI:: .bool BH:: .string BG:: .bool BF:: .string BE:: .bool BD:: .string BC:: .bool BB:: .string BA::[]⟩] []=plane_Valid.K CO CN ER EQ BN BM A3 A2 A6 A5 A4 A9 A8 A7 AB AA B5 B4 B3 B2 AZ AY AX AW AV AU AT AS AR AQ AP AO AN AM AL AK BJ BI BH BG BF BE BD BC BB BA (fun r=>some (.bool r,[])):=by kernel_rfl
noncomputable def plane_Valid.o:Option (Bool):=plane_Valid.K vector_Valid vector_Valid.pre vector_Zero vector_Zero.pre field_Valid field_Valid.pre A3 A2 A6 A5 A4 A9 A8 A7 AB AA B5 B4 B3 B2 AZ AY AX AW AV AU AT AS AR AQ AP AO AN AM AL AK BJ BI BH BG BF BE BD BC BB BA some
noncomputable def plane_Valid.pre:Bool:=(plane_Valid.o A3 A2 A6 A5 A4 A9 A8 A7 AB AA B5 B4 B3 B2 AZ AY AX AW AV AU AT AS AR AQ AP AO AN AM AL AK BJ BI BH BG BF BE BD BC BB BA).isSome
noncomputable def plane_Valid:Bool:=(plane_Valid.o A3 A2 A6 A5 A4 A9 A8 A7 AB AA B5 B4 B3 B2 AZ AY AX AW AV AU AT AS AR AQ AP AO AN AM AL AK BJ BI BH BG BF BE BD BC BB BA).getD default
theorem plane_Valid.nat (k:(Bool)→Option R):plane_Valid.K CO CN ER EQ BN BM A3 A2 A6 A5 A4 A9 A8 A7 AB AA B5 B4 B3 B2 AZ AY AX AW AV AU AT AS AR AQ AP AO AN AM AL AK BJ BI BH BG BF BE BD BC BB BA k=(plane_Valid.K CO CN ER EQ BN BM A3 A2 A6 A5 A4 A9 A8 A7 AB AA B5 B4 B3 B2 AZ AY AX AW AV AU AT AS AR AQ AP AO AN AM AL AK BJ BI BH BG BF BE BD BC BB BA some).bind k:=by
 simp only [plane_Valid.K,bcond,Option.bind_some,Option.bind_none]
end
theorem vector_Valid.ps {k:Nat} {x y z:Q} (hx:x.Bd k) (hy:y.Bd k) (hz:z.Bd k) (hk:k≤LIM):vector_Valid.pre (dI x.c0).1 (dI x.c0).2 (dI x.c1).1 (dI x.c1).2 (dI x.c2).1 (dI x.c2).2 (dI x.c3).1 (dI x.c3).2 (dI x.d).1 (dI x.d).2 (dI y.c0).1 (dI y.c0).2 (dI y.c1).1 (dI y.c1).2 (dI y.c2).1 (dI y.c2).2 (dI y.c3).1 (dI y.c3).2 (dI y.d).1 (dI y.d).2 (dI z.c0).1 (dI z.c0).2 (dI z.c1).1 (dI z.c1).2 (dI z.c2).1 (dI z.c2).2 (dI z.c3).1 (dI z.c3).2 (dI z.d).1 (dI z.d).2=true:=by
 simp only [vector_Valid.pre,field_Valid.ps hx hk,field_Valid.ps hy hk,field_Valid.ps hz hk,Bool.and_self]
theorem vector_Valid.es {k:Nat} {x y z:Q} (hx:x.Bd k) (hy:y.Bd k) (hz:z.Bd k) (hk:k≤LIM):vector_Valid (dI x.c0).1 (dI x.c0).2 (dI x.c1).1 (dI x.c1).2 (dI x.c2).1 (dI x.c2).2 (dI x.c3).1 (dI x.c3).2 (dI x.d).1 (dI x.d).2 (dI y.c0).1 (dI y.c0).2 (dI y.c1).1 (dI y.c1).2 (dI y.c2).1 (dI y.c2).2 (dI y.c3).1 (dI y.c3).2 (dI y.d).1 (dI y.d).2 (dI z.c0).1 (dI z.c0).2 (dI z.c1).1 (dI z.c1).2 (dI z.c2).1 (dI z.c2).2 (dI z.c3).1 (dI z.c3).2 (dI z.d).1 (dI z.d).2=(x.ok&&(y.ok&&z.ok)):=by
 simp only [vector_Valid,field_Valid.es hx hk,field_Valid.es hy hk,field_Valid.es hz hk]
theorem plane_Valid.os {k:Nat} {x y z q:Q} (hx:x.Bd k) (hy:y.Bd k) (hz:z.Bd k) (hq:q.Bd k) (hk:k≤LIM) (ox:x.ok=true) (oy:y.ok=true) (oz:z.ok=true) (oq:q.ok=true):plane_Valid.o (dI x.c0).1 (dI x.c0).2 (dI x.c1).1 (dI x.c1).2 (dI x.c2).1 (dI x.c2).2 (dI x.c3).1 (dI x.c3).2 (dI x.d).1 (dI x.d).2 (dI y.c0).1 (dI y.c0).2 (dI y.c1).1 (dI y.c1).2 (dI y.c2).1 (dI y.c2).2 (dI y.c3).1 (dI y.c3).2 (dI y.d).1 (dI y.d).2 (dI z.c0).1 (dI z.c0).2 (dI z.c1).1 (dI z.c1).2 (dI z.c2).1 (dI z.c2).2 (dI z.c3).1 (dI z.c3).2 (dI z.d).1 (dI z.d).2 (dI q.c0).1 (dI q.c0).2 (dI q.c1).1 (dI q.c1).2 (dI q.c2).1 (dI q.c2).2 (dI q.c3).1 (dI q.c3).2 (dI q.d).1 (dI q.d).2=some (!(x.nul&&(y.nul&&z.nul))):=by
 simp only [plane_Valid.o,plane_Valid.K,vector_Valid.ps hx hy hz hk,vector_Valid.es hx hy hz hk,vector_Zero.ps ox oy oz,vector_Zero.es ox oy oz,field_Valid.ps hq hk,field_Valid.es hq hk,ox,oy,oz,oq,Bool.and_self,cond_true]
 cases (x.nul&&(y.nul&&z.nul))<;>rfl
theorem plane_Valid.ps {k:Nat} {x y z q:Q} (hx:x.Bd k) (hy:y.Bd k) (hz:z.Bd k) (hq:q.Bd k) (hk:k≤LIM) (ox:x.ok=true) (oy:y.ok=true) (oz:z.ok=true) (oq:q.ok=true):plane_Valid.pre (dI x.c0).1 (dI x.c0).2 (dI x.c1).1 (dI x.c1).2 (dI x.c2).1 (dI x.c2).2 (dI x.c3).1 (dI x.c3).2 (dI x.d).1 (dI x.d).2 (dI y.c0).1 (dI y.c0).2 (dI y.c1).1 (dI y.c1).2 (dI y.c2).1 (dI y.c2).2 (dI y.c3).1 (dI y.c3).2 (dI y.d).1 (dI y.d).2 (dI z.c0).1 (dI z.c0).2 (dI z.c1).1 (dI z.c1).2 (dI z.c2).1 (dI z.c2).2 (dI z.c3).1 (dI z.c3).2 (dI z.d).1 (dI z.d).2 (dI q.c0).1 (dI q.c0).2 (dI q.c1).1 (dI q.c1).2 (dI q.c2).1 (dI q.c2).2 (dI q.c3).1 (dI q.c3).2 (dI q.d).1 (dI q.d).2=true:=isSome_of (plane_Valid.os hx hy hz hq hk ox oy oz oq)
theorem plane_Valid.es {k:Nat} {x y z q:Q} (hx:x.Bd k) (hy:y.Bd k) (hz:z.Bd k) (hq:q.Bd k) (hk:k≤LIM) (ox:x.ok=true) (oy:y.ok=true) (oz:z.ok=true) (oq:q.ok=true):plane_Valid (dI x.c0).1 (dI x.c0).2 (dI x.c1).1 (dI x.c1).2 (dI x.c2).1 (dI x.c2).2 (dI x.c3).1 (dI x.c3).2 (dI x.d).1 (dI x.d).2 (dI y.c0).1 (dI y.c0).2 (dI y.c1).1 (dI y.c1).2 (dI y.c2).1 (dI y.c2).2 (dI y.c3).1 (dI y.c3).2 (dI y.d).1 (dI y.d).2 (dI z.c0).1 (dI z.c0).2 (dI z.c1).1 (dI z.c1).2 (dI z.c2).1 (dI z.c2).2 (dI z.c3).1 (dI z.c3).2 (dI z.d).1 (dI z.d).2 (dI q.c0).1 (dI q.c0).2 (dI q.c1).1 (dI q.c1).2 (dI q.c2).1 (dI q.c2).2 (dI q.c3).1 (dI q.c3).2 (dI q.d).1 (dI q.d).2=(!(x.nul&&(y.nul&&z.nul))):=getD_of (plane_Valid.os hx hy hz hq hk ox oy oz oq)
theorem plane_Valid.ok:SOK Tryz.prog 60 (plane_Valid.sp plane_Valid plane_Valid.pre):=by
 refine sok_of (E:=⟨[(83,vector_Valid.sp vector_Valid vector_Valid.pre),(108,vector_Zero.sp vector_Zero vector_Zero.pre),(109,field_Valid.sp field_Valid field_Valid.pre)],[],[]⟩) (L:=[]) ⟨(specs_cons vector_Valid.ok (specs_cons vector_Zero.ok (specs_cons field_Valid.ok specs_nil))),inl_nil,mixed_ok,lps_nil⟩ 60 Tryz.func60 (by decide) rfl no_loops fun vs bl v bl' h=> ?_
 unfold plane_Valid.sp at h
 split at h
 ·rename_i A3 A2 A6 A5 A4 A9 A8 A7 AB AA B5 B4 B3 B2 AZ AY AX AW AV AU AT AS AR AQ AP AO AN AM AL AK BJ BI BH BG BF BE BD BC BB BA
  simp only [Option.some.injEq,Prod.mk.injEq] at h
  obtain ⟨hp,rfl,rfl⟩:=h
  have hr:=plane_Valid.run vector_Valid vector_Valid.pre vector_Zero vector_Zero.pre field_Valid field_Valid.pre A3 A2 A6 A5 A4 A9 A8 A7 AB AA B5 B4 B3 B2 AZ AY AX AW AV AU AT AS AR AQ AP AO AN AM AL AK BJ BI BH BG BF BE BD BC BB BA
  rw [plane_Valid.nat] at hr
  obtain ⟨r,h2⟩:=Option.isSome_iff_exists.1 (hp:(plane_Valid.o A3 A2 A6 A5 A4 A9 A8 A7 AB AA B5 B4 B3 B2 AZ AY AX AW AV AU AT AS AR AQ AP AO AN AM AL AK BJ BI BH BG BF BE BD BC BB BA).isSome=true)
  have h3:plane_Valid A3 A2 A6 A5 A4 A9 A8 A7 AB AA B5 B4 B3 B2 AZ AY AX AW AV AU AT AS AR AQ AP AO AN AM AL AK BJ BI BH BG BF BE BD BC BB BA=r:=by unfold plane_Valid; rw [h2]; rfl
  have h4:plane_Valid.K vector_Valid vector_Valid.pre vector_Zero vector_Zero.pre field_Valid field_Valid.pre A3 A2 A6 A5 A4 A9 A8 A7 AB AA B5 B4 B3 B2 AZ AY AX AW AV AU AT AS AR AQ AP AO AN AM AL AK BJ BI BH BG BF BE BD BC BB BA some=some r:=h2
  rw [h4,Option.bind_some] at hr
  rw [h3]
  exact ⟨hr,by simp [okV,Nat.blt],clo_spec 8 _ (by kernel_rfl),told_blk (by kernel_rfl)⟩
 ·cases h
section
variable {R:Type} (CY:TF10 (TY5)) (CX:TF10 Bool) (CO:TF15 (Bool)) (CN:TF15 Bool) (CM:TF10 (TY5)) (CL:TF10 Bool) (A3:Bool) (A2:ByteArray) (A6:Bool) (A5:ByteArray) (A4:Bool) (A9:ByteArray) (A8:Bool) (A7:ByteArray) (AB:Bool) (AA:ByteArray) (B5:Bool) (B4:ByteArray) (B3:Bool) (B2:ByteArray) (AZ:Bool) (AY:ByteArray) (AX:Bool) (AW:ByteArray) (AV:Bool) (AU:ByteArray) (AT:Bool) (AS:ByteArray) (AR:Bool) (AQ:ByteArray) (AP:Bool) (AO:ByteArray) (AN:Bool) (AM:ByteArray) (AL:Bool) (AK:ByteArray) (AD:Bool) (AC:ByteArray) (AH:Bool) (AG:ByteArray) (AJ:Bool) (AI:ByteArray) (B7:Bool) (B6:ByteArray) (AF:Bool) (AE:ByteArray) (DS:Bool) (DR:ByteArray) (DQ:Bool) (DP:ByteArray) (DO:Bool) (DN:ByteArray) (DM:Bool) (DL:ByteArray) (DK:Bool) (DJ:ByteArray) (DI:Bool) (DH:ByteArray) (DG:Bool) (DF:ByteArray) (DE:Bool) (DD:ByteArray) (DC:Bool) (DB:ByteArray) (DA:Bool) (D9:ByteArray)
noncomputable def vector_Dot.K (k:TY5→Option R):Option R:=
 let t0:=CN A3 A2 A6 A5 A4 A9 A8 A7 AB AA B5 B4 B3 B2 AZ AY AX AW AV AU AT AS AR AQ AP AO AN AM AL AK
 bif t0 then
 let t1:=CO A3 A2 A6 A5 A4 A9 A8 A7 AB AA B5 B4 B3 B2 AZ AY AX AW AV AU AT AS AR AQ AP AO AN AM AL AK
 bif !t1 then
 let t2:=CL false {data:= #[]} false {data:= #[]} false {data:= #[]} false {data:= #[]} false {data:= #[]} false {data:= #[]} false {data:= #[]} false {data:= #[]} false {data:= #[]} false {data:= #[]}
 bif t2 then
 let t3:=CM false {data:= #[]} false {data:= #[]} false {data:= #[]} false {data:= #[]} false {data:= #[]} false {data:= #[]} false {data:= #[]} false {data:= #[]} false {data:= #[]} false {data:= #[]}
 let t4:=CL t3.1 t3.2.1 t3.2.2.1 t3.2.2.2.1 t3.2.2.2.2.1 t3.2.2.2.2.2.1 t3.2.2.2.2.2.2.1 t3.2.2.2.2.2.2.2.1 t3.2.2.2.2.2.2.2.2.1 t3.2.2.2.2.2.2.2.2.2 false {data:= #[]} false {data:= #[]} false {data:= #[]} false {data:= #[]} false {data:= #[]}
 bif t4 then
 let t5:=CM t3.1 t3.2.1 t3.2.2.1 t3.2.2.2.1 t3.2.2.2.2.1 t3.2.2.2.2.2.1 t3.2.2.2.2.2.2.1 t3.2.2.2.2.2.2.2.1 t3.2.2.2.2.2.2.2.2.1 t3.2.2.2.2.2.2.2.2.2 false {data:= #[]} false {data:= #[]} false {data:= #[]} false {data:= #[]} false {data:= #[]}
 k (t5.1,t5.2.1,t5.2.2.1,t5.2.2.2.1,t5.2.2.2.2.1,t5.2.2.2.2.2.1,t5.2.2.2.2.2.2.1,t5.2.2.2.2.2.2.2.1,t5.2.2.2.2.2.2.2.2.1,t5.2.2.2.2.2.2.2.2.2) else none else none else
 let t6:=CN AD AC AH AG AJ AI B7 B6 AF AE DS DR DQ DP DO DN DM DL DK DJ DI DH DG DF DE DD DC DB DA D9
 bif t6 then
 let t7:=CO AD AC AH AG AJ AI B7 B6 AF AE DS DR DQ DP DO DN DM DL DK DJ DI DH DG DF DE DD DC DB DA D9
 bif !t7 then
 let t8:=CL false {data:= #[]} false {data:= #[]} false {data:= #[]} false {data:= #[]} false {data:= #[]} false {data:= #[]} false {data:= #[]} false {data:= #[]} false {data:= #[]} false {data:= #[]}
 bif t8 then
 let t9:=CM false {data:= #[]} false {data:= #[]} false {data:= #[]} false {data:= #[]} false {data:= #[]} false {data:= #[]} false {data:= #[]} false {data:= #[]} false {data:= #[]} false {data:= #[]}
 let t10:=CL t9.1 t9.2.1 t9.2.2.1 t9.2.2.2.1 t9.2.2.2.2.1 t9.2.2.2.2.2.1 t9.2.2.2.2.2.2.1 t9.2.2.2.2.2.2.2.1 t9.2.2.2.2.2.2.2.2.1 t9.2.2.2.2.2.2.2.2.2 false {data:= #[]} false {data:= #[]} false {data:= #[]} false {data:= #[]} false {data:= #[]}
 bif t10 then
 let t11:=CM t9.1 t9.2.1 t9.2.2.1 t9.2.2.2.1 t9.2.2.2.2.1 t9.2.2.2.2.2.1 t9.2.2.2.2.2.2.1 t9.2.2.2.2.2.2.2.1 t9.2.2.2.2.2.2.2.2.1 t9.2.2.2.2.2.2.2.2.2 false {data:= #[]} false {data:= #[]} false {data:= #[]} false {data:= #[]} false {data:= #[]}
 k (t11.1,t11.2.1,t11.2.2.1,t11.2.2.2.1,t11.2.2.2.2.1,t11.2.2.2.2.2.1,t11.2.2.2.2.2.2.1,t11.2.2.2.2.2.2.2.1,t11.2.2.2.2.2.2.2.2.1,t11.2.2.2.2.2.2.2.2.2) else none else none else
 let t12:=CX A3 A2 A6 A5 A4 A9 A8 A7 AB AA AD AC AH AG AJ AI B7 B6 AF AE
 bif t12 then
 let t13:=CX B5 B4 B3 B2 AZ AY AX AW AV AU DS DR DQ DP DO DN DM DL DK DJ
 bif t13 then
 let t14:=CX AT AS AR AQ AP AO AN AM AL AK DI DH DG DF DE DD DC DB DA D9
 bif t14 then
 let t15:=CY A3 A2 A6 A5 A4 A9 A8 A7 AB AA AD AC AH AG AJ AI B7 B6 AF AE
 let t16:=CY B5 B4 B3 B2 AZ AY AX AW AV AU DS DR DQ DP DO DN DM DL DK DJ
 let t17:=CL t15.1 t15.2.1 t15.2.2.1 t15.2.2.2.1 t15.2.2.2.2.1 t15.2.2.2.2.2.1 t15.2.2.2.2.2.2.1 t15.2.2.2.2.2.2.2.1 t15.2.2.2.2.2.2.2.2.1 t15.2.2.2.2.2.2.2.2.2 t16.1 t16.2.1 t16.2.2.1 t16.2.2.2.1 t16.2.2.2.2.1 t16.2.2.2.2.2.1 t16.2.2.2.2.2.2.1 t16.2.2.2.2.2.2.2.1 t16.2.2.2.2.2.2.2.2.1 t16.2.2.2.2.2.2.2.2.2
 bif t17 then
 let t18:=CM t15.1 t15.2.1 t15.2.2.1 t15.2.2.2.1 t15.2.2.2.2.1 t15.2.2.2.2.2.1 t15.2.2.2.2.2.2.1 t15.2.2.2.2.2.2.2.1 t15.2.2.2.2.2.2.2.2.1 t15.2.2.2.2.2.2.2.2.2 t16.1 t16.2.1 t16.2.2.1 t16.2.2.2.1 t16.2.2.2.2.1 t16.2.2.2.2.2.1 t16.2.2.2.2.2.2.1 t16.2.2.2.2.2.2.2.1 t16.2.2.2.2.2.2.2.2.1 t16.2.2.2.2.2.2.2.2.2
 let t19:=CY AT AS AR AQ AP AO AN AM AL AK DI DH DG DF DE DD DC DB DA D9
 let t20:=CL t18.1 t18.2.1 t18.2.2.1 t18.2.2.2.1 t18.2.2.2.2.1 t18.2.2.2.2.2.1 t18.2.2.2.2.2.2.1 t18.2.2.2.2.2.2.2.1 t18.2.2.2.2.2.2.2.2.1 t18.2.2.2.2.2.2.2.2.2 t19.1 t19.2.1 t19.2.2.1 t19.2.2.2.1 t19.2.2.2.2.1 t19.2.2.2.2.2.1 t19.2.2.2.2.2.2.1 t19.2.2.2.2.2.2.2.1 t19.2.2.2.2.2.2.2.2.1 t19.2.2.2.2.2.2.2.2.2
 bif t20 then
 let t21:=CM t18.1 t18.2.1 t18.2.2.1 t18.2.2.2.1 t18.2.2.2.2.1 t18.2.2.2.2.2.1 t18.2.2.2.2.2.2.1 t18.2.2.2.2.2.2.2.1 t18.2.2.2.2.2.2.2.2.1 t18.2.2.2.2.2.2.2.2.2 t19.1 t19.2.1 t19.2.2.1 t19.2.2.2.1 t19.2.2.2.2.1 t19.2.2.2.2.2.1 t19.2.2.2.2.2.2.1 t19.2.2.2.2.2.2.2.1 t19.2.2.2.2.2.2.2.2.1 t19.2.2.2.2.2.2.2.2.2
 k (t21.1,t21.2.1,t21.2.2.1,t21.2.2.2.1,t21.2.2.2.2.1,t21.2.2.2.2.2.1,t21.2.2.2.2.2.2.1,t21.2.2.2.2.2.2.2.1,t21.2.2.2.2.2.2.2.2.1,t21.2.2.2.2.2.2.2.2.2) else none else none else none else none else none else none else none
theorem vector_Dot.run:xfn Tryz.prog ⟨[(110,field_Mul.sp CY CX),(83,vector_Valid.sp CO CN),(112,field_Add.sp CM CL)],[(111,Tryz.f111)],[]⟩ [] 60 Tryz.f61 [.agg ⟨[.bool A3,.string A2,.bool A6,.string A5,.bool A4,.string A9,.bool A8,.string A7,.bool AB,.string AA,.bool B5,.string B4,.bool B3,.string B2,.bool AZ,.string AY,.bool AX,.string AW,.bool AV,.string AU,.bool AT,.string AS,.bool AR,.string AQ,.bool AP,.string AO,.bool AN,.string AM,.bool AL,.string AK]⟩,.agg ⟨[.bool AD,.string AC,.bool AH,.string AG,.bool AJ,.string AI,.bool B7,.string B6,.bool AF,.string AE,.bool DS,.string DR,.bool DQ,.string DP,.bool DO,.string DN,.bool DM,.string DL,.bool DK,.string DJ,.bool DI,.string DH,.bool DG,.string DF,.bool DE,.string DD,.bool DC,.string DB,.bool DA,.string D9]⟩] []=vector_Dot.K CY CX CO CN CM CL A3 A2 A6 A5 A4 A9 A8 A7 AB AA B5 B4 B3 B2 AZ AY AX AW AV AU AT AS AR AQ AP AO AN AM AL AK AD AC AH AG AJ AI B7 B6 AF AE DS DR DQ DP DO DN DM DL DK DJ DI DH DG DF DE DD DC DB DA D9 (fun r=>some (.agg ⟨[.bool r.1,.string r.2.1,.bool r.2.2.1,.string r.2.2.2.1,.bool r.2.2.2.2.1,.string r.2.2.2.2.2.1,.bool r.2.2.2.2.2.2.1,.string r.2.2.2.2.2.2.2.1,.bool r.2.2.2.2.2.2.2.2.1,.string r.2.2.2.2.2.2.2.2.2]⟩,[])):=by kernel_rfl
noncomputable def vector_Dot.o:Option (TY5):=vector_Dot.K field_Mul field_Mul.pre vector_Valid vector_Valid.pre field_Add field_Add.pre A3 A2 A6 A5 A4 A9 A8 A7 AB AA B5 B4 B3 B2 AZ AY AX AW AV AU AT AS AR AQ AP AO AN AM AL AK AD AC AH AG AJ AI B7 B6 AF AE DS DR DQ DP DO DN DM DL DK DJ DI DH DG DF DE DD DC DB DA D9 some
noncomputable def vector_Dot.pre:Bool:=(vector_Dot.o A3 A2 A6 A5 A4 A9 A8 A7 AB AA B5 B4 B3 B2 AZ AY AX AW AV AU AT AS AR AQ AP AO AN AM AL AK AD AC AH AG AJ AI B7 B6 AF AE DS DR DQ DP DO DN DM DL DK DJ DI DH DG DF DE DD DC DB DA D9).isSome
noncomputable def vector_Dot:TY5:=(vector_Dot.o A3 A2 A6 A5 A4 A9 A8 A7 AB AA B5 B4 B3 B2 AZ AY AX AW AV AU AT AS AR AQ AP AO AN AM AL AK AD AC AH AG AJ AI B7 B6 AF AE DS DR DQ DP DO DN DM DL DK DJ DI DH DG DF DE DD DC DB DA D9).getD default
theorem vector_Dot.nat (k:TY5→Option R):vector_Dot.K CY CX CO CN CM CL A3 A2 A6 A5 A4 A9 A8 A7 AB AA B5 B4 B3 B2 AZ AY AX AW AV AU AT AS AR AQ AP AO AN AM AL AK AD AC AH AG AJ AI B7 B6 AF AE DS DR DQ DP DO DN DM DL DK DJ DI DH DG DF DE DD DC DB DA D9 k=(vector_Dot.K CY CX CO CN CM CL A3 A2 A6 A5 A4 A9 A8 A7 AB AA B5 B4 B3 B2 AZ AY AX AW AV AU AT AS AR AQ AP AO AN AM AL AK AD AC AH AG AJ AI B7 B6 AF AE DS DR DQ DP DO DN DM DL DK DJ DI DH DG DF DE DD DC DB DA D9 some).bind k:=by
 simp only [vector_Dot.K,bcond,Option.bind_some,Option.bind_none]
end
def qsq (x y z:Q):Q:=qadd (qadd (qmul x x) (qmul y y)) (qmul z z)
theorem qsq_ok {x y z:Q} (ox:x.ok=true) (oy:y.ok=true) (oz:z.ok=true):(qsq x y z).ok=true:=qadd_ok (qadd_ok (qmul_ok ox ox) (qmul_ok oy oy)) (qmul_ok oz oz)
theorem qsq_bd {k:Nat} {x y z:Q} (hx:x.Bd k) (hy:y.Bd k) (hz:z.Bd k) (ox:x.ok=true) (oy:y.ok=true) (oz:z.ok=true):(qsq x y z).Bd (6*k+17):=
 (qadd_bd (qadd_bd (qmul_bd hx hx ox ox) (qmul_bd hy hy oy oy) (qmul_ok ox ox) (qmul_ok oy oy)) (qmul_bd hz hz oz oz) (qadd_ok (qmul_ok ox ox) (qmul_ok oy oy)) (qmul_ok oz oz)).mono (by omega)
theorem vector_Dot.os {k:Nat} {x y z:Q} (hx:x.Bd k) (hy:y.Bd k) (hz:z.Bd k) (hk:6*k+20≤4000000) (ox:x.ok=true) (oy:y.ok=true) (oz:z.ok=true):vector_Dot.o (dI x.c0).1 (dI x.c0).2 (dI x.c1).1 (dI x.c1).2 (dI x.c2).1 (dI x.c2).2 (dI x.c3).1 (dI x.c3).2 (dI x.d).1 (dI x.d).2 (dI y.c0).1 (dI y.c0).2 (dI y.c1).1 (dI y.c1).2 (dI y.c2).1 (dI y.c2).2 (dI y.c3).1 (dI y.c3).2 (dI y.d).1 (dI y.d).2 (dI z.c0).1 (dI z.c0).2 (dI z.c1).1 (dI z.c1).2 (dI z.c2).1 (dI z.c2).2 (dI z.c3).1 (dI z.c3).2 (dI z.d).1 (dI z.d).2 (dI x.c0).1 (dI x.c0).2 (dI x.c1).1 (dI x.c1).2 (dI x.c2).1 (dI x.c2).2 (dI x.c3).1 (dI x.c3).2 (dI x.d).1 (dI x.d).2 (dI y.c0).1 (dI y.c0).2 (dI y.c1).1 (dI y.c1).2 (dI y.c2).1 (dI y.c2).2 (dI y.c3).1 (dI y.c3).2 (dI y.d).1 (dI y.d).2 (dI z.c0).1 (dI z.c0).2 (dI z.c1).1 (dI z.c1).2 (dI z.c2).1 (dI z.c2).2 (dI z.c3).1 (dI z.c3).2 (dI z.d).1 (dI z.d).2=some (C5 (qsq x y z)):=by
 have hL:k≤LIM:=by unfold LIM; omega
 have hP:k≤PRM:=by unfold PRM; omega
 have mp:=fun {w:Q} (hw:w.Bd k)=>field_Mul.ps hw hw hP hP
 have me:∀ {w:Q},w.Bd k→w.ok=true→field_Mul (dI w.c0).1 (dI w.c0).2 (dI w.c1).1 (dI w.c1).2 (dI w.c2).1 (dI w.c2).2 (dI w.c3).1 (dI w.c3).2 (dI w.d).1 (dI w.d).2 (dI w.c0).1 (dI w.c0).2 (dI w.c1).1 (dI w.c1).2 (dI w.c2).1 (dI w.c2).2 (dI w.c3).1 (dI w.c3).2 (dI w.d).1 (dI w.d).2=C5 (qmul w w):=fun hw ow=>by
  have:=field_Mul.es hw hw hP hP
  rw [ow] at this
  exact this
 have bx:=qmul_bd hx hx ox ox
 have by':=qmul_bd hy hy oy oy
 have bz:=qmul_bd hz hz oz oz
 have kx:=qmul_ok ox ox
 have ky:=qmul_ok oy oy
 have kz:=qmul_ok oz oz
 have a1:=field_Add.ps bx by' (by unfold PRM; omega) (by unfold PRM; omega)
 have a1':=field_Add.es bx by' (by unfold PRM; omega) (by unfold PRM; omega)
 rw [kx,ky] at a1'
 change _=C5 (qadd (qmul x x) (qmul y y)) at a1'
 have b1:=qadd_bd bx by' kx ky
 have a2:=field_Add.ps b1 bz (by unfold PRM; omega) (by unfold PRM; omega)
 have a2':=field_Add.es b1 bz (by unfold PRM; omega) (by unfold PRM; omega)
 rw [qadd_ok kx ky,kz] at a2'
 change _=C5 (qsq x y z) at a2'
 simp only [vector_Dot.o,vector_Dot.K,vector_Valid.ps hx hy hz hL,vector_Valid.es hx hy hz hL,ox,oy,oz,Bool.and_self,Bool.not_true,cond_true,cond_false,mp hx,mp hy,mp hz,me hx ox,me hy oy,me hz oz,C5,a1,a1',a2,a2']
theorem vector_Dot.ps {k:Nat} {x y z:Q} (hx:x.Bd k) (hy:y.Bd k) (hz:z.Bd k) (hk:6*k+20≤4000000) (ox:x.ok=true) (oy:y.ok=true) (oz:z.ok=true):vector_Dot.pre (dI x.c0).1 (dI x.c0).2 (dI x.c1).1 (dI x.c1).2 (dI x.c2).1 (dI x.c2).2 (dI x.c3).1 (dI x.c3).2 (dI x.d).1 (dI x.d).2 (dI y.c0).1 (dI y.c0).2 (dI y.c1).1 (dI y.c1).2 (dI y.c2).1 (dI y.c2).2 (dI y.c3).1 (dI y.c3).2 (dI y.d).1 (dI y.d).2 (dI z.c0).1 (dI z.c0).2 (dI z.c1).1 (dI z.c1).2 (dI z.c2).1 (dI z.c2).2 (dI z.c3).1 (dI z.c3).2 (dI z.d).1 (dI z.d).2 (dI x.c0).1 (dI x.c0).2 (dI x.c1).1 (dI x.c1).2 (dI x.c2).1 (dI x.c2).2 (dI x.c3).1 (dI x.c3).2 (dI x.d).1 (dI x.d).2 (dI y.c0).1 (dI y.c0).2 (dI y.c1).1 (dI y.c1).2 (dI y.c2).1 (dI y.c2).2 (dI y.c3).1 (dI y.c3).2 (dI y.d).1 (dI y.d).2 (dI z.c0).1 (dI z.c0).2 (dI z.c1).1 (dI z.c1).2 (dI z.c2).1 (dI z.c2).2 (dI z.c3).1 (dI z.c3).2 (dI z.d).1 (dI z.d).2=true:=isSome_of (vector_Dot.os hx hy hz hk ox oy oz)
theorem vector_Dot.es {k:Nat} {x y z:Q} (hx:x.Bd k) (hy:y.Bd k) (hz:z.Bd k) (hk:6*k+20≤4000000) (ox:x.ok=true) (oy:y.ok=true) (oz:z.ok=true):vector_Dot (dI x.c0).1 (dI x.c0).2 (dI x.c1).1 (dI x.c1).2 (dI x.c2).1 (dI x.c2).2 (dI x.c3).1 (dI x.c3).2 (dI x.d).1 (dI x.d).2 (dI y.c0).1 (dI y.c0).2 (dI y.c1).1 (dI y.c1).2 (dI y.c2).1 (dI y.c2).2 (dI y.c3).1 (dI y.c3).2 (dI y.d).1 (dI y.d).2 (dI z.c0).1 (dI z.c0).2 (dI z.c1).1 (dI z.c1).2 (dI z.c2).1 (dI z.c2).2 (dI z.c3).1 (dI z.c3).2 (dI z.d).1 (dI z.d).2 (dI x.c0).1 (dI x.c0).2 (dI x.c1).1 (dI x.c1).2 (dI x.c2).1 (dI x.c2).2 (dI x.c3).1 (dI x.c3).2 (dI x.d).1 (dI x.d).2 (dI y.c0).1 (dI y.c0).2 (dI y.c1).1 (dI y.c1).2 (dI y.c2).1 (dI y.c2).2 (dI y.c3).1 (dI y.c3).2 (dI y.d).1 (dI y.d).2 (dI z.c0).1 (dI z.c0).2 (dI z.c1).1 (dI z.c1).2 (dI z.c2).1 (dI z.c2).2 (dI z.c3).1 (dI z.c3).2 (dI z.d).1 (dI z.d).2=C5 (qsq x y z):=getD_of (vector_Dot.os hx hy hz hk ox oy oz)
theorem vector_Dot.ok:SOK Tryz.prog 61 (vector_Dot.sp vector_Dot vector_Dot.pre):=by
 refine sok_of (E:=⟨[(110,field_Mul.sp field_Mul field_Mul.pre),(83,vector_Valid.sp vector_Valid vector_Valid.pre),(112,field_Add.sp field_Add field_Add.pre)],[(111,Tryz.f111)],[]⟩) (L:=[]) ⟨(specs_cons field_Mul.ok (specs_cons vector_Valid.ok (specs_cons field_Add.ok specs_nil))),(inl_cons ⟨Tryz.func111,by decide,rfl⟩ inl_nil),mixed_ok,lps_nil⟩ 60 Tryz.func61 (by decide) rfl no_loops fun vs bl v bl' h=> ?_
 unfold vector_Dot.sp at h
 split at h
 ·rename_i A3 A2 A6 A5 A4 A9 A8 A7 AB AA B5 B4 B3 B2 AZ AY AX AW AV AU AT AS AR AQ AP AO AN AM AL AK AD AC AH AG AJ AI B7 B6 AF AE DS DR DQ DP DO DN DM DL DK DJ DI DH DG DF DE DD DC DB DA D9
  simp only [Option.some.injEq,Prod.mk.injEq] at h
  obtain ⟨hp,rfl,rfl⟩:=h
  have hr:=vector_Dot.run field_Mul field_Mul.pre vector_Valid vector_Valid.pre field_Add field_Add.pre A3 A2 A6 A5 A4 A9 A8 A7 AB AA B5 B4 B3 B2 AZ AY AX AW AV AU AT AS AR AQ AP AO AN AM AL AK AD AC AH AG AJ AI B7 B6 AF AE DS DR DQ DP DO DN DM DL DK DJ DI DH DG DF DE DD DC DB DA D9
  rw [vector_Dot.nat] at hr
  obtain ⟨r,h2⟩:=Option.isSome_iff_exists.1 (hp:(vector_Dot.o A3 A2 A6 A5 A4 A9 A8 A7 AB AA B5 B4 B3 B2 AZ AY AX AW AV AU AT AS AR AQ AP AO AN AM AL AK AD AC AH AG AJ AI B7 B6 AF AE DS DR DQ DP DO DN DM DL DK DJ DI DH DG DF DE DD DC DB DA D9).isSome=true)
  have h3:vector_Dot A3 A2 A6 A5 A4 A9 A8 A7 AB AA B5 B4 B3 B2 AZ AY AX AW AV AU AT AS AR AQ AP AO AN AM AL AK AD AC AH AG AJ AI B7 B6 AF AE DS DR DQ DP DO DN DM DL DK DJ DI DH DG DF DE DD DC DB DA D9=r:=by unfold vector_Dot; rw [h2]; rfl
  have h4:vector_Dot.K field_Mul field_Mul.pre vector_Valid vector_Valid.pre field_Add field_Add.pre A3 A2 A6 A5 A4 A9 A8 A7 AB AA B5 B4 B3 B2 AZ AY AX AW AV AU AT AS AR AQ AP AO AN AM AL AK AD AC AH AG AJ AI B7 B6 AF AE DS DR DQ DP DO DN DM DL DK DJ DI DH DG DF DE DD DC DB DA D9 some=some r:=h2
  rw [h4,Option.bind_some] at hr
  rw [h3]
  exact ⟨hr,by simp [okV,Nat.blt],clo_spec 8 _ (by kernel_rfl),told_blk (by kernel_rfl)⟩
 ·cases h
section
variable {R:Type} (s0_0:Int) (AD:Int) (AC:Int) (a2:Int)
def direction_calc_keep.K (k:Int×Int×Int→R):R:=
 bif s0_0==0 then k (AD,AC,a2) else k (AD,AC,s0_0)
theorem direction_calc_keep.run:xfn Tryz.prog ⟨[],[],[]⟩ [] 60 Tryz.f62 [.pointer (some ⟨0,0,none⟩),.agg ⟨[.int .i64 AD,.int .i64 AC]⟩,.int .i64 a2] [.cs [.int .i64 s0_0] 98]=direction_calc_keep.K s0_0 AD AC a2 (fun r=>some (.agg ⟨[.int .i64 r.1,.int .i64 r.2.1]⟩,[.cs [.int .i64 r.2.2] 98])):=by kernel_rfl
def direction_calc_keep:Int×Int×Int:=direction_calc_keep.K s0_0 AD AC a2 id
theorem direction_calc_keep.nat (k:Int×Int×Int→R):direction_calc_keep.K s0_0 AD AC a2 k=k (direction_calc_keep.K s0_0 AD AC a2 id):=by
 simp only [direction_calc_keep.K,acond k,id_eq]
theorem direction_calc_keep.eq (s a b e:Int):direction_calc_keep s a b e=(a,b,kp s e):=by
 simp only [direction_calc_keep,direction_calc_keep.K,id_eq,kp]
 cases s==0<;>rfl
end
theorem direction_calc_keep.ok:SOK Tryz.prog 62 (direction_calc_keep.sp direction_calc_keep):=by
 refine sok_of (E:=⟨[],[],[]⟩) (L:=[]) ⟨specs_nil,inl_nil,mixed_ok,lps_nil⟩ 60 Tryz.func62 (by decide) rfl no_loops fun vs bl v bl' h=> ?_
 unfold direction_calc_keep.sp at h
 split at h
 ·rename_i AD AC a2 s0_0
  simp only [Option.some.injEq,Prod.mk.injEq,true_and] at h
  obtain ⟨rfl,rfl⟩:=h
  refine ⟨?_,by simp [okV,Nat.blt],clo_spec 8 _ (by kernel_rfl),told_blk (by kernel_rfl)⟩
  refine (direction_calc_keep.run s0_0 AD AC a2).trans ?_
  refine (direction_calc_keep.nat s0_0 AD AC a2 _).trans ?_
  kernel_rfl
 ·cases h
section
variable {R:Type} (s0_0:Int) (AD:Int) (AC:Int) (AH:Int) (AG:Int) (AJ:Int) (AI:Int)
def direction_calc_box.K (k:Int×Int×Int×Int×Int×Int×Int×Int→R):R:=
 bif s0_0 !=0 then k (0,0,0,0,0,0,s0_0,s0_0) else k (AD,AC,AH,AG,AJ,AI,0,s0_0)
theorem direction_calc_box.run:xfn Tryz.prog ⟨[],[],[]⟩ [] 60 Tryz.f64 [.pointer (some ⟨0,0,none⟩),.agg ⟨[.int .i64 AD,.int .i64 AC,.int .i64 AH,.int .i64 AG,.int .i64 AJ,.int .i64 AI]⟩] [.cs [.int .i64 s0_0] 98]=direction_calc_box.K s0_0 AD AC AH AG AJ AI (fun r=>some (.tuple ⟨[.agg ⟨[.int .i64 r.1,.int .i64 r.2.1,.int .i64 r.2.2.1,.int .i64 r.2.2.2.1,.int .i64 r.2.2.2.2.1,.int .i64 r.2.2.2.2.2.1]⟩,.int .i64 r.2.2.2.2.2.2.1]⟩,[.cs [.int .i64 r.2.2.2.2.2.2.2] 98])):=by kernel_rfl
def direction_calc_box:Int×Int×Int×Int×Int×Int×Int×Int:=direction_calc_box.K s0_0 AD AC AH AG AJ AI id
theorem direction_calc_box.nat (k:Int×Int×Int×Int×Int×Int×Int×Int→R):direction_calc_box.K s0_0 AD AC AH AG AJ AI k=k (direction_calc_box.K s0_0 AD AC AH AG AJ AI id):=by
 simp only [direction_calc_box.K,acond k,id_eq]
end
theorem direction_calc_box.ok:SOK Tryz.prog 64 (direction_calc_box.sp direction_calc_box):=by
 refine sok_of (E:=⟨[],[],[]⟩) (L:=[]) ⟨specs_nil,inl_nil,mixed_ok,lps_nil⟩ 60 Tryz.func64 (by decide) rfl no_loops fun vs bl v bl' h=> ?_
 unfold direction_calc_box.sp at h
 split at h
 ·rename_i AD AC AH AG AJ AI s0_0
  simp only [Option.some.injEq,Prod.mk.injEq,true_and] at h
  obtain ⟨rfl,rfl⟩:=h
  refine ⟨?_,by simp [okV,Nat.blt],clo_spec 8 _ (by kernel_rfl),told_blk (by kernel_rfl)⟩
  refine (direction_calc_box.run s0_0 AD AC AH AG AJ AI).trans ?_
  refine (direction_calc_box.nat s0_0 AD AC AH AG AJ AI _).trans ?_
  kernel_rfl
 ·cases h
section
variable {R:Type} (D7:TF20 (Bool)) (D5:TF20 Bool) (DW:TF30 (TY5)) (DT:TF30 Bool) (CW:Int→Int→Int→Int→(Int×Int×Int)) (C1:TF10 (Int×Int×Int)) (C0:TF10 Bool) (E2:Int→Int→Int→Int→Int→Int→Int→(Int×Int×Int×Int×Int×Int×Int×Int)) (A3:Bool) (A2:ByteArray) (A6:Bool) (A5:ByteArray) (A4:Bool) (A9:ByteArray) (A8:Bool) (A7:ByteArray) (AB:Bool) (AA:ByteArray) (B5:Bool) (B4:ByteArray) (B3:Bool) (B2:ByteArray) (AZ:Bool) (AY:ByteArray) (AX:Bool) (AW:ByteArray) (AV:Bool) (AU:ByteArray) (AT:Bool) (AS:ByteArray) (AR:Bool) (AQ:ByteArray) (AP:Bool) (AO:ByteArray) (AN:Bool) (AM:ByteArray) (AL:Bool) (AK:ByteArray) (BJ:Bool) (BI:ByteArray) (BH:Bool) (BG:ByteArray) (BF:Bool) (BE:ByteArray) (BD:Bool) (BC:ByteArray) (BB:Bool) (BA:ByteArray)
noncomputable def direction_Normal.K (k:Int×Int×Int×Int×Int×Int×Int→Option R):Option R:=
 let t0:=D5 A3 A2 A6 A5 A4 A9 A8 A7 AB AA B5 B4 B3 B2 AZ AY AX AW AV AU AT AS AR AQ AP AO AN AM AL AK BJ BI BH BG BF BE BD BC BB BA
 bif t0 then
 let t1:=D7 A3 A2 A6 A5 A4 A9 A8 A7 AB AA B5 B4 B3 B2 AZ AY AX AW AV AU AT AS AR AQ AP AO AN AM AL AK BJ BI BH BG BF BE BD BC BB BA
 bif !t1 then k (0,0,0,0,0,0,1) else
 let t2:=DT A3 A2 A6 A5 A4 A9 A8 A7 AB AA B5 B4 B3 B2 AZ AY AX AW AV AU AT AS AR AQ AP AO AN AM AL AK A3 A2 A6 A5 A4 A9 A8 A7 AB AA B5 B4 B3 B2 AZ AY AX AW AV AU AT AS AR AQ AP AO AN AM AL AK
 bif t2 then
 let t3:=DW A3 A2 A6 A5 A4 A9 A8 A7 AB AA B5 B4 B3 B2 AZ AY AX AW AV AU AT AS AR AQ AP AO AN AM AL AK A3 A2 A6 A5 A4 A9 A8 A7 AB AA B5 B4 B3 B2 AZ AY AX AW AV AU AT AS AR AQ AP AO AN AM AL AK
 let t4:=C0 A3 A2 A6 A5 A4 A9 A8 A7 AB AA t3.1 t3.2.1 t3.2.2.1 t3.2.2.2.1 t3.2.2.2.2.1 t3.2.2.2.2.2.1 t3.2.2.2.2.2.2.1 t3.2.2.2.2.2.2.2.1 t3.2.2.2.2.2.2.2.2.1 t3.2.2.2.2.2.2.2.2.2
 bif t4 then
 let t5:=C0 B5 B4 B3 B2 AZ AY AX AW AV AU t3.1 t3.2.1 t3.2.2.1 t3.2.2.2.1 t3.2.2.2.2.1 t3.2.2.2.2.2.1 t3.2.2.2.2.2.2.1 t3.2.2.2.2.2.2.2.1 t3.2.2.2.2.2.2.2.2.1 t3.2.2.2.2.2.2.2.2.2
 bif t5 then
 let t6:=C0 AT AS AR AQ AP AO AN AM AL AK t3.1 t3.2.1 t3.2.2.1 t3.2.2.2.1 t3.2.2.2.2.1 t3.2.2.2.2.2.1 t3.2.2.2.2.2.2.1 t3.2.2.2.2.2.2.2.1 t3.2.2.2.2.2.2.2.2.1 t3.2.2.2.2.2.2.2.2.2
 bif t6 then
 let t7:=C1 A3 A2 A6 A5 A4 A9 A8 A7 AB AA t3.1 t3.2.1 t3.2.2.1 t3.2.2.2.1 t3.2.2.2.2.1 t3.2.2.2.2.2.1 t3.2.2.2.2.2.2.1 t3.2.2.2.2.2.2.2.1 t3.2.2.2.2.2.2.2.2.1 t3.2.2.2.2.2.2.2.2.2
 let t8:=CW 0 t7.1 t7.2.1 t7.2.2
 let t9:=C1 B5 B4 B3 B2 AZ AY AX AW AV AU t3.1 t3.2.1 t3.2.2.1 t3.2.2.2.1 t3.2.2.2.2.1 t3.2.2.2.2.2.1 t3.2.2.2.2.2.2.1 t3.2.2.2.2.2.2.2.1 t3.2.2.2.2.2.2.2.2.1 t3.2.2.2.2.2.2.2.2.2
 let t10:=CW t8.2.2 t9.1 t9.2.1 t9.2.2
 let t11:=C1 AT AS AR AQ AP AO AN AM AL AK t3.1 t3.2.1 t3.2.2.1 t3.2.2.2.1 t3.2.2.2.2.1 t3.2.2.2.2.2.1 t3.2.2.2.2.2.2.1 t3.2.2.2.2.2.2.2.1 t3.2.2.2.2.2.2.2.2.1 t3.2.2.2.2.2.2.2.2.2
 let t12:=CW t10.2.2 t11.1 t11.2.1 t11.2.2
 let t13:=E2 t12.2.2 t8.1 t8.2.1 t10.1 t10.2.1 t12.1 t12.2.1
 k (t13.1,t13.2.1,t13.2.2.1,t13.2.2.2.1,t13.2.2.2.2.1,t13.2.2.2.2.2.1,t13.2.2.2.2.2.2.1) else none else none else none else none else none
theorem direction_Normal.run:xfn Tryz.prog ⟨[(60,plane_Valid.sp D7 D5),(61,vector_Dot.sp DW DT),(62,direction_calc_keep.sp CW),(63,direction_quotient.sp C1 C0),(64,direction_calc_box.sp E2)],[],[]⟩ [] 60 Tryz.f18 [.agg ⟨.bool A3:: .string A2:: .bool A6:: .string A5:: .bool A4:: .string A9:: .bool A8:: .string A7:: .bool AB:: .string AA:: .bool B5:: .string B4:: .bool B3:: .string B2:: .bool AZ:: .string AY:: .bool AX:: .string AW:: .bool AV:: .string AU:: .bool AT:: .string AS:: .bool AR:: .string AQ:: .bool AP:: .string AO:: .bool AN:: .string AM:: .bool AL:: .string AK:: .bool BJ:: .string BI:: .bool BH:: .string BG:: .bool BF:: .string BE:: .bool BD:: .string BC:: .bool BB:: .string BA::[]⟩] []=direction_Normal.K D7 D5 DW DT CW C1 C0 E2 A3 A2 A6 A5 A4 A9 A8 A7 AB AA B5 B4 B3 B2 AZ AY AX AW AV AU AT AS AR AQ AP AO AN AM AL AK BJ BI BH BG BF BE BD BC BB BA (fun r=>some (.tuple ⟨[.agg ⟨[.int .i64 r.1,.int .i64 r.2.1,.int .i64 r.2.2.1,.int .i64 r.2.2.2.1,.int .i64 r.2.2.2.2.1,.int .i64 r.2.2.2.2.2.1]⟩,.int .i64 r.2.2.2.2.2.2]⟩,[])):=by kernel_rfl
noncomputable def direction_Normal.o:Option (Int×Int×Int×Int×Int×Int×Int):=direction_Normal.K plane_Valid plane_Valid.pre vector_Dot vector_Dot.pre direction_calc_keep direction_quotient direction_quotient.pre direction_calc_box A3 A2 A6 A5 A4 A9 A8 A7 AB AA B5 B4 B3 B2 AZ AY AX AW AV AU AT AS AR AQ AP AO AN AM AL AK BJ BI BH BG BF BE BD BC BB BA some
noncomputable def direction_Normal.pre:Bool:=(direction_Normal.o A3 A2 A6 A5 A4 A9 A8 A7 AB AA B5 B4 B3 B2 AZ AY AX AW AV AU AT AS AR AQ AP AO AN AM AL AK BJ BI BH BG BF BE BD BC BB BA).isSome
noncomputable def direction_Normal:Int×Int×Int×Int×Int×Int×Int:=(direction_Normal.o A3 A2 A6 A5 A4 A9 A8 A7 AB AA B5 B4 B3 B2 AZ AY AX AW AV AU AT AS AR AQ AP AO AN AM AL AK BJ BI BH BG BF BE BD BC BB BA).getD default
theorem direction_Normal.nat (k:Int×Int×Int×Int×Int×Int×Int→Option R):direction_Normal.K D7 D5 DW DT CW C1 C0 E2 A3 A2 A6 A5 A4 A9 A8 A7 AB AA B5 B4 B3 B2 AZ AY AX AW AV AU AT AS AR AQ AP AO AN AM AL AK BJ BI BH BG BF BE BD BC BB BA k=(direction_Normal.K D7 D5 DW DT CW C1 C0 E2 A3 A2 A6 A5 A4 A9 A8 A7 AB AA B5 B4 B3 B2 AZ AY AX AW AV AU AT AS AR AQ AP AO AN AM AL AK BJ BI BH BG BF BE BD BC BB BA some).bind k:=by
 simp only [direction_Normal.K,bcond,Option.bind_some,Option.bind_none]
end
theorem qsq_rep {x y z:Q} (ox:x.ok=true) (oy:y.ok=true) (oz:z.ok=true):Rep (qsq x y z) (sgm (wv x*wv x) (wv y*wv y) (wv z*wv z) (zi x.d*zi x.d) (zi y.d*zi y.d) (zi z.d*zi z.d)) ((zi x.d*zi x.d)*(zi y.d*zi y.d)*(zi z.d*zi z.d)):=
 (((Rep.self ox).mul (Rep.self ox) ox ox).add ((Rep.self oy).mul (Rep.self oy) oy oy) (qmul_ok ox ox) (qmul_ok oy oy)).add ((Rep.self oz).mul (Rep.self oz) oz oz) (qadd_ok (qmul_ok ox ox) (qmul_ok oy oy)) (qmul_ok oz oz)
theorem wv_nz {x:Q} (h:x.nul=false):Sg.s (wv x)≠0:=fun h0=>by
 have:=sgZ _ h0
 have e0:x.c0=0:=congrArg (fun w:Z6=>w.p.a) this
 have e1:x.c1=0:=congrArg (fun w:Z6=>w.p.b) this
 have e2:x.c2=0:=congrArg (fun w:Z6=>w.q.a) this
 have e3:x.c3=0:=congrArg (fun w:Z6=>w.q.b) this
 simp [Q.nul,e0,e1,e2,e3] at h
theorem sgm_pos {x y z:Q} (ox:x.ok=true) (oy:y.ok=true) (oz:z.ok=true) (h:(x.nul&&(y.nul&&z.nul))=false):Sg.s (sgm (wv x*wv x) (wv y*wv y) (wv z*wv z) (zi x.d*zi x.d) (zi y.d*zi y.d) (zi z.d*zi z.d))=1:=by
 have dx:=zd_pos ox
 have dy:=zd_pos oy
 have dz:=zd_pos oz
 have m:∀ {a b:Z6},Sg.s a=1→Sg.s b=1→Sg.s (a*b)=1:=fun ha hb=>by rw [sgM,ha,hb]; rfl
 have n:∀ {a b:Z6},Sg.s b=1→Sg.s (a*b)=Sg.s a:=fun hb=>by rw [sgM,hb,Int.mul_one]
 have ex:=m (m dx dx) (m dy dy)
 have ey:=m (m dy dy) (m dz dz)
 have ez:=m (m dx dx) (m dz dz)
 rw [sgm_eq]
 have qx:=s_sq_nonneg (wv x)
 have qy:=s_sq_nonneg (wv y)
 have qz:=s_sq_nonneg (wv z)
 have h1:0≤Sg.s (wv x*wv x*(zi y.d*zi y.d*(zi z.d*zi z.d))+wv y*wv y*(zi x.d*zi x.d*(zi z.d*zi z.d))):=s_nonneg_add (by rw [n ey]; exact qx) (by rw [n ez]; exact qy)
 cases hx:x.nul with
 |false=>exact s_add_of h1 (by rw [n ex]; exact qz) (.inl (s_add_of (by rw [n ey]; exact qx) (by rw [n ez]; exact qy) (.inl (by rw [n ey]; exact s_sq (wv_nz hx)))))
 | true=>
  cases hy:y.nul with
  |false=>exact s_add_of h1 (by rw [n ex]; exact qz) (.inl (s_add_of (by rw [n ey]; exact qx) (by rw [n ez]; exact qy) (.inr (by rw [n ez]; exact s_sq (wv_nz hy)))))
  | true=>
   rw [hx,hy,Bool.true_and,Bool.true_and] at h
   exact s_add_of h1 (by rw [n ex]; exact qz) (.inr (by rw [n ex]; exact s_sq (wv_nz h)))
def sgb (s:Bool) (n h:Int):I2:=(bif s then -h else n,bif s then -n else h)
theorem normal_box {x y z:Q} (ox:x.ok=true) (oy:y.ok=true) (oz:z.ok=true) (hn:(x.nul&&(y.nul&&z.nul))=false):
  ∃ n0 h0 n1 h1 n2 h2:Int,(0≤n0∧n0≤h0∧h0≤16777216)∧(0≤n1∧n1≤h1∧h1≤16777216)∧(0≤n2∧n2≤h2∧h2≤16777216)∧n0*n0+n1*n1+n2*n2≤KK∧KK≤h0*h0+h1*h1+h2*h2∧
   dquot x (qsq x y z)=((sgb (decide (x.sg<0)) n0 h0).1,(sgb (decide (x.sg<0)) n0 h0).2,0)∧dquot y (qsq x y z)=((sgb (decide (y.sg<0)) n1 h1).1,(sgb (decide (y.sg<0)) n1 h1).2,0)∧dquot z (qsq x y z)=((sgb (decide (z.sg<0)) n2 h2).1,(sgb (decide (z.sg<0)) n2 h2).2,0):=by
 have rs:=qsq_rep ox oy oz
 have os:=qsq_ok ox oy oz
 have hσ:=sgm_pos ox oy oz hn
 have m:∀ {a b:Z6},Sg.s a=1→Sg.s b=1→Sg.s (a*b)=1:=fun ha hb=>by rw [sgM,ha,hb]; rfl
 have dx:=m (zd_pos ox) (zd_pos ox)
 have dy:=m (zd_pos oy) (zd_pos oy)
 have dz:=m (zd_pos oz) (zd_pos oz)
 have hτ:=m (m dx dy) dz
 have e:=sgm_eq (wv x*wv x) (wv y*wv y) (wv z*wv z) (zi x.d*zi x.d) (zi y.d*zi y.d) (zi z.d*zi z.d)
 have nn:∀ {a b:Z6},Sg.s b=1→0≤Sg.s (a*a*b):=fun {a b} hb=>by rw [sgM,hb,Int.mul_one]; exact s_sq_nonneg a
 have bx:=unit_bound (P:=wv x*wv x) (R:=zi x.d*zi x.d) (E:=zi y.d*zi y.d*(zi z.d*zi z.d)) (σ:=sgm (wv x*wv x) (wv y*wv y) (wv z*wv z) (zi x.d*zi x.d) (zi y.d*zi y.d) (zi z.d*zi z.d)) (τ:=zi x.d*zi x.d*(zi y.d*zi y.d)*(zi z.d*zi z.d)) (Q:=wv y*wv y*(zi x.d*zi x.d*(zi z.d*zi z.d))+wv z*wv z*(zi x.d*zi x.d*(zi y.d*zi y.d))) (by ac_rfl) (by rw [e]; ac_rfl) (m dy dz) hτ (s_nonneg_add (nn (m dx dz)) (nn (m dx dy)))
 have by':=unit_bound (P:=wv y*wv y) (R:=zi y.d*zi y.d) (E:=zi x.d*zi x.d*(zi z.d*zi z.d)) (σ:=sgm (wv x*wv x) (wv y*wv y) (wv z*wv z) (zi x.d*zi x.d) (zi y.d*zi y.d) (zi z.d*zi z.d)) (τ:=zi x.d*zi x.d*(zi y.d*zi y.d)*(zi z.d*zi z.d)) (Q:=wv x*wv x*(zi y.d*zi y.d*(zi z.d*zi z.d))+wv z*wv z*(zi x.d*zi x.d*(zi y.d*zi y.d))) (by ac_rfl) (by rw [e]; ac_rfl) (m dx dz) hτ (s_nonneg_add (nn (m dy dz)) (nn (m dx dy)))
 have bz:=unit_bound (P:=wv z*wv z) (R:=zi z.d*zi z.d) (E:=zi x.d*zi x.d*(zi y.d*zi y.d)) (σ:=sgm (wv x*wv x) (wv y*wv y) (wv z*wv z) (zi x.d*zi x.d) (zi y.d*zi y.d) (zi z.d*zi z.d)) (τ:=zi x.d*zi x.d*(zi y.d*zi y.d)*(zi z.d*zi z.d)) (Q:=wv x*wv x*(zi y.d*zi y.d*(zi z.d*zi z.d))+wv y*wv y*(zi x.d*zi x.d*(zi z.d*zi z.d))) (by ac_rfl) (by rw [e]; ac_rfl) (m dx dy) hτ (s_nonneg_add (nn (m dy dz)) (nn (m dx dz)))
 obtain ⟨n0,h0,a0,b0,c0,l0,u0,q0⟩:=dquot_unit (Rep.self ox) rs ox os hσ hτ bx
 obtain ⟨n1,h1,a1,b1,c1,l1,u1,q1⟩:=dquot_unit (Rep.self oy) rs oy os hσ hτ by'
 obtain ⟨n2,h2,a2,b2,c2,l2,u2,q2⟩:=dquot_unit (Rep.self oz) rs oz os hσ hτ bz
 exact ⟨n0,h0,n1,h1,n2,h2,⟨a0,b0,c0⟩,⟨a1,b1,c1⟩,⟨a2,b2,c2⟩,sum_le dx dy dz hσ l0 l1 l2,sum_ge dx dy dz hσ u0 u1 u2,q0,q1,q2⟩
theorem direction_Normal.os {k:Nat} {x y z q:Q} (hx:x.Bd k) (hy:y.Bd k) (hz:z.Bd k) (hq:q.Bd k) (hk:k≤1000) (ox:x.ok=true) (oy:y.ok=true) (oz:z.ok=true) (oq:q.ok=true):
  direction_Normal.o (dI x.c0).1 (dI x.c0).2 (dI x.c1).1 (dI x.c1).2 (dI x.c2).1 (dI x.c2).2 (dI x.c3).1 (dI x.c3).2 (dI x.d).1 (dI x.d).2 (dI y.c0).1 (dI y.c0).2 (dI y.c1).1 (dI y.c1).2 (dI y.c2).1 (dI y.c2).2 (dI y.c3).1 (dI y.c3).2 (dI y.d).1 (dI y.d).2 (dI z.c0).1 (dI z.c0).2 (dI z.c1).1 (dI z.c1).2 (dI z.c2).1 (dI z.c2).2 (dI z.c3).1 (dI z.c3).2 (dI z.d).1 (dI z.d).2 (dI q.c0).1 (dI q.c0).2 (dI q.c1).1 (dI q.c1).2 (dI q.c2).1 (dI q.c2).2 (dI q.c3).1 (dI q.c3).2 (dI q.d).1 (dI q.d).2=some (bif x.nul&&(y.nul&&z.nul) then (0,0,0,0,0,0,1) else ((dquot x (qsq x y z)).1,(dquot x (qsq x y z)).2.1,(dquot y (qsq x y z)).1,(dquot y (qsq x y z)).2.1,(dquot z (qsq x y z)).1,(dquot z (qsq x y z)).2.1,0)):=by
 have hL:k≤LIM:=by unfold LIM; omega
 have sb:=qsq_bd hx hy hz ox oy oz
 have hb:∀ {w:Q},w.Bd k→4*k+14*(6*k+17)+200≤PRM:=fun _=>by unfold PRM; omega
 have qp:=fun {w:Q} (hw:w.Bd k)=>direction_quotient.ps hw sb (by omega) (hb hw)
 have qe:=fun {w:Q} (hw:w.Bd k)=>direction_quotient.es hw sb (by omega) (hb hw)
 simp only [direction_Normal.o,direction_Normal.K,plane_Valid.ps hx hy hz hq hL ox oy oz oq,plane_Valid.es hx hy hz hq hL ox oy oz oq,cond_true]
 cases hn:(x.nul&&(y.nul&&z.nul)) with
 |true=>rfl
 | false=>
  obtain ⟨n0,h0,n1,h1,n2,h2,_,_,_,_,_,q0,q1,q2⟩:=normal_box ox oy oz hn
  simp only [Bool.not_false,Bool.not_true,cond_true,cond_false,vector_Dot.ps hx hy hz (by omega) ox oy oz,vector_Dot.es hx hy hz (by omega) ox oy oz,C5,qp hx,qp hy,qp hz,qe hx,qe hy,qe hz,direction_calc_keep.eq,q0,q1,q2,kp0,direction_calc_box,direction_calc_box.K,id_eq,bne_self_eq_false]
theorem direction_Normal.ps {k:Nat} {x y z q:Q} (hx:x.Bd k) (hy:y.Bd k) (hz:z.Bd k) (hq:q.Bd k) (hk:k≤1000) (ox:x.ok=true) (oy:y.ok=true) (oz:z.ok=true) (oq:q.ok=true):direction_Normal.pre (dI x.c0).1 (dI x.c0).2 (dI x.c1).1 (dI x.c1).2 (dI x.c2).1 (dI x.c2).2 (dI x.c3).1 (dI x.c3).2 (dI x.d).1 (dI x.d).2 (dI y.c0).1 (dI y.c0).2 (dI y.c1).1 (dI y.c1).2 (dI y.c2).1 (dI y.c2).2 (dI y.c3).1 (dI y.c3).2 (dI y.d).1 (dI y.d).2 (dI z.c0).1 (dI z.c0).2 (dI z.c1).1 (dI z.c1).2 (dI z.c2).1 (dI z.c2).2 (dI z.c3).1 (dI z.c3).2 (dI z.d).1 (dI z.d).2 (dI q.c0).1 (dI q.c0).2 (dI q.c1).1 (dI q.c1).2 (dI q.c2).1 (dI q.c2).2 (dI q.c3).1 (dI q.c3).2 (dI q.d).1 (dI q.d).2=true:=isSome_of (direction_Normal.os hx hy hz hq hk ox oy oz oq)
theorem direction_Normal.es {k:Nat} {x y z q:Q} (hx:x.Bd k) (hy:y.Bd k) (hz:z.Bd k) (hq:q.Bd k) (hk:k≤1000) (ox:x.ok=true) (oy:y.ok=true) (oz:z.ok=true) (oq:q.ok=true):
 direction_Normal (dI x.c0).1 (dI x.c0).2 (dI x.c1).1 (dI x.c1).2 (dI x.c2).1 (dI x.c2).2 (dI x.c3).1 (dI x.c3).2 (dI x.d).1 (dI x.d).2 (dI y.c0).1 (dI y.c0).2 (dI y.c1).1 (dI y.c1).2 (dI y.c2).1 (dI y.c2).2 (dI y.c3).1 (dI y.c3).2 (dI y.d).1 (dI y.d).2 (dI z.c0).1 (dI z.c0).2 (dI z.c1).1 (dI z.c1).2 (dI z.c2).1 (dI z.c2).2 (dI z.c3).1 (dI z.c3).2 (dI z.d).1 (dI z.d).2 (dI q.c0).1 (dI q.c0).2 (dI q.c1).1 (dI q.c1).2 (dI q.c2).1 (dI q.c2).2 (dI q.c3).1 (dI q.c3).2 (dI q.d).1 (dI q.d).2=(bif x.nul&&(y.nul&&z.nul) then (0,0,0,0,0,0,1) else ((dquot x (qsq x y z)).1,(dquot x (qsq x y z)).2.1,(dquot y (qsq x y z)).1,(dquot y (qsq x y z)).2.1,(dquot z (qsq x y z)).1,(dquot z (qsq x y z)).2.1,0)):=getD_of (direction_Normal.os hx hy hz hq hk ox oy oz oq)
theorem direction_Normal.ok:SOK Tryz.prog 18 (direction_Normal.sp direction_Normal direction_Normal.pre):=by
 refine sok_of (E:=⟨[(60,plane_Valid.sp plane_Valid plane_Valid.pre),(61,vector_Dot.sp vector_Dot vector_Dot.pre),(62,direction_calc_keep.sp direction_calc_keep),(63,direction_quotient.sp direction_quotient direction_quotient.pre),(64,direction_calc_box.sp direction_calc_box)],[],[]⟩) (L:=[]) ⟨(specs_cons plane_Valid.ok (specs_cons vector_Dot.ok (specs_cons direction_calc_keep.ok (specs_cons direction_quotient.ok (specs_cons direction_calc_box.ok specs_nil))))),inl_nil,mixed_ok,lps_nil⟩ 60 Tryz.func18 (by decide) rfl no_loops fun vs bl v bl' h=> ?_
 unfold direction_Normal.sp at h
 split at h
 ·rename_i A3 A2 A6 A5 A4 A9 A8 A7 AB AA B5 B4 B3 B2 AZ AY AX AW AV AU AT AS AR AQ AP AO AN AM AL AK BJ BI BH BG BF BE BD BC BB BA
  simp only [Option.some.injEq,Prod.mk.injEq] at h
  obtain ⟨hp,rfl,rfl⟩:=h
  have hr:=direction_Normal.run plane_Valid plane_Valid.pre vector_Dot vector_Dot.pre direction_calc_keep direction_quotient direction_quotient.pre direction_calc_box A3 A2 A6 A5 A4 A9 A8 A7 AB AA B5 B4 B3 B2 AZ AY AX AW AV AU AT AS AR AQ AP AO AN AM AL AK BJ BI BH BG BF BE BD BC BB BA
  rw [direction_Normal.nat] at hr
  obtain ⟨r,h2⟩:=Option.isSome_iff_exists.1 (hp:(direction_Normal.o A3 A2 A6 A5 A4 A9 A8 A7 AB AA B5 B4 B3 B2 AZ AY AX AW AV AU AT AS AR AQ AP AO AN AM AL AK BJ BI BH BG BF BE BD BC BB BA).isSome=true)
  have h3:direction_Normal A3 A2 A6 A5 A4 A9 A8 A7 AB AA B5 B4 B3 B2 AZ AY AX AW AV AU AT AS AR AQ AP AO AN AM AL AK BJ BI BH BG BF BE BD BC BB BA=r:=by unfold direction_Normal; rw [h2]; rfl
  have h4:direction_Normal.K plane_Valid plane_Valid.pre vector_Dot vector_Dot.pre direction_calc_keep direction_quotient direction_quotient.pre direction_calc_box A3 A2 A6 A5 A4 A9 A8 A7 AB AA B5 B4 B3 B2 AZ AY AX AW AV AU AT AS AR AQ AP AO AN AM AL AK BJ BI BH BG BF BE BD BC BB BA some=some r:=h2
  rw [h4,Option.bind_some] at hr
  rw [h3]
  exact ⟨hr,by simp [okV,Nat.blt],clo_spec 8 _ (by kernel_rfl),told_blk (by kernel_rfl)⟩
 ·cases h
end Go.Proofs.YtpejalpgficopaaGreatDoor.G
end
