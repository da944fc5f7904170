/- A part of what the law's proof leans on. PACKED BY pack.py of this repo. -/
import Derived.Test.YtphlckkbihmlnaaGreatDoorT16
set_option linter.unusedVariables false
set_option linter.unusedSimpArgs false
set_option linter.defProp false
set_option linter.unusedSectionVars false
section
namespace Go.Proofs.YtphlckkbihmlnaaGreatDoor.G
set_option maxRecDepth 100000
open Go Go.Proofs Go.RowKit RX
section
variable {R:Type} (BX:Int→(TY5)) (BW:Int→Bool) (a0:Int) (a1:Int) (a2:Int)
noncomputable def Dp.K (k:TY15→Option R):Option R:=
 let t0:=BW a0
 bif t0 then
 let t1:=BW a1
 bif t1 then
 let t2:=BW a2
 bif t2 then
 let t3:=BX a0
 let t4:=BX a1
 let t5:=BX a2
 k (t3.1,t3.2.1,t3.2.2.1,t3.2.2.2.1,t3.2.2.2.2.1,t3.2.2.2.2.2.1,t3.2.2.2.2.2.2.1,t3.2.2.2.2.2.2.2.1,t3.2.2.2.2.2.2.2.2.1,t3.2.2.2.2.2.2.2.2.2,t4.1,t4.2.1,t4.2.2.1,t4.2.2.2.1,t4.2.2.2.2.1,t4.2.2.2.2.2.1,t4.2.2.2.2.2.2.1,t4.2.2.2.2.2.2.2.1,t4.2.2.2.2.2.2.2.2.1,t4.2.2.2.2.2.2.2.2.2,t5.1,t5.2.1,t5.2.2.1,t5.2.2.2.1,t5.2.2.2.2.1,t5.2.2.2.2.2.1,t5.2.2.2.2.2.2.1,t5.2.2.2.2.2.2.2.1,t5.2.2.2.2.2.2.2.2.1,t5.2.2.2.2.2.2.2.2.2) else none else none else none
theorem Dp.run:xfn Tryz.prog ⟨[(73,By.sp BX BW)],[],[]⟩ [] 60 Tryz.f95 [.int .i64 a0,.int .i64 a1,.int .i64 a2] []=Dp.K BX BW a0 a1 a2 (fun r=>some (.agg ⟨[.bool r.1,.string r.2.1,.bool r.2.2.1,.string r.2.2.2.1,.bool r.2.2.2.2.1,.string r.2.2.2.2.2.1,.bool r.2.2.2.2.2.2.1,.string r.2.2.2.2.2.2.2.1,.bool r.2.2.2.2.2.2.2.2.1,.string r.2.2.2.2.2.2.2.2.2.1,.bool r.2.2.2.2.2.2.2.2.2.2.1,.string r.2.2.2.2.2.2.2.2.2.2.2.1,.bool r.2.2.2.2.2.2.2.2.2.2.2.2.1,.string r.2.2.2.2.2.2.2.2.2.2.2.2.2.1,.bool r.2.2.2.2.2.2.2.2.2.2.2.2.2.2.1,.string r.2.2.2.2.2.2.2.2.2.2.2.2.2.2.2.1,.bool r.2.2.2.2.2.2.2.2.2.2.2.2.2.2.2.2.1,.string r.2.2.2.2.2.2.2.2.2.2.2.2.2.2.2.2.2.1,.bool r.2.2.2.2.2.2.2.2.2.2.2.2.2.2.2.2.2.2.1,.string r.2.2.2.2.2.2.2.2.2.2.2.2.2.2.2.2.2.2.2.1,.bool r.2.2.2.2.2.2.2.2.2.2.2.2.2.2.2.2.2.2.2.2.1,.string r.2.2.2.2.2.2.2.2.2.2.2.2.2.2.2.2.2.2.2.2.2.1,.bool r.2.2.2.2.2.2.2.2.2.2.2.2.2.2.2.2.2.2.2.2.2.2.1,.string r.2.2.2.2.2.2.2.2.2.2.2.2.2.2.2.2.2.2.2.2.2.2.2.1,.bool r.2.2.2.2.2.2.2.2.2.2.2.2.2.2.2.2.2.2.2.2.2.2.2.2.1,.string r.2.2.2.2.2.2.2.2.2.2.2.2.2.2.2.2.2.2.2.2.2.2.2.2.2.1,.bool r.2.2.2.2.2.2.2.2.2.2.2.2.2.2.2.2.2.2.2.2.2.2.2.2.2.2.1,.string r.2.2.2.2.2.2.2.2.2.2.2.2.2.2.2.2.2.2.2.2.2.2.2.2.2.2.2.1,.bool r.2.2.2.2.2.2.2.2.2.2.2.2.2.2.2.2.2.2.2.2.2.2.2.2.2.2.2.2.1,.string r.2.2.2.2.2.2.2.2.2.2.2.2.2.2.2.2.2.2.2.2.2.2.2.2.2.2.2.2.2]⟩,[])):=by kernel_rfl
noncomputable def Dp.o:Option (TY15):=Dp.K By By.pre a0 a1 a2 some
noncomputable def Dp.pre:Bool:=(Dp.o a0 a1 a2).isSome
noncomputable def Dp:TY15:=(Dp.o a0 a1 a2).getD default
theorem Dp.nat (k:TY15→Option R):Dp.K BX BW a0 a1 a2 k=(Dp.K BX BW a0 a1 a2 some).bind k:=by
 simp only [Dp.K,bcond,Option.bind_some,Option.bind_none]
end
theorem Dp.os:Dp.o 0 0 0=some ((dI (qof 0).c0).1,(dI (qof 0).c0).2,(dI (qof 0).c1).1,(dI (qof 0).c1).2,(dI (qof 0).c2).1,(dI (qof 0).c2).2,(dI (qof 0).c3).1,(dI (qof 0).c3).2,(dI (qof 0).d).1,(dI (qof 0).d).2,(dI (qof 0).c0).1,(dI (qof 0).c0).2,(dI (qof 0).c1).1,(dI (qof 0).c1).2,(dI (qof 0).c2).1,(dI (qof 0).c2).2,(dI (qof 0).c3).1,(dI (qof 0).c3).2,(dI (qof 0).d).1,(dI (qof 0).d).2,(dI (qof 0).c0).1,(dI (qof 0).c0).2,(dI (qof 0).c1).1,(dI (qof 0).c1).2,(dI (qof 0).c2).1,(dI (qof 0).c2).2,(dI (qof 0).c3).1,(dI (qof 0).c3).2,(dI (qof 0).d).1,(dI (qof 0).d).2):=by
 have p:=By.ps (n:=0) (by decide) (by decide)
 have e:=By.es (n:=0) (by decide) (by decide)
 simp only [Dp.o,Dp.K,p,e,cond_true]
 rfl
theorem Dp.ps:Dp.pre 0 0 0=true:=Ey Dp.os
theorem Dp.es:Dp 0 0 0=((dI (qof 0).c0).1,(dI (qof 0).c0).2,(dI (qof 0).c1).1,(dI (qof 0).c1).2,(dI (qof 0).c2).1,(dI (qof 0).c2).2,(dI (qof 0).c3).1,(dI (qof 0).c3).2,(dI (qof 0).d).1,(dI (qof 0).d).2,(dI (qof 0).c0).1,(dI (qof 0).c0).2,(dI (qof 0).c1).1,(dI (qof 0).c1).2,(dI (qof 0).c2).1,(dI (qof 0).c2).2,(dI (qof 0).c3).1,(dI (qof 0).c3).2,(dI (qof 0).d).1,(dI (qof 0).d).2,(dI (qof 0).c0).1,(dI (qof 0).c0).2,(dI (qof 0).c1).1,(dI (qof 0).c1).2,(dI (qof 0).c2).1,(dI (qof 0).c2).2,(dI (qof 0).c3).1,(dI (qof 0).c3).2,(dI (qof 0).d).1,(dI (qof 0).d).2):=Fq Dp.os
theorem Dp.ok:SOK Tryz.prog 95 (Dp.sp Dp Dp.pre):=by
 refine Cq (E:=⟨[(73,By.sp By By.pre)],[],[]⟩) (L:=[]) ⟨(Aa By.ok Ac),Ai,Ad,Ah⟩ 60 Tryz.func95 (by decide) rfl Bs fun vs bl v bl' h=> ?_
 unfold Dp.sp at h
 split at h
 ·rename_i a0 a1 a2
  simp only [Option.some.injEq,Prod.mk.injEq] at h
  obtain ⟨hp,rfl,rfl⟩:=h
  have hr:=Dp.run By By.pre a0 a1 a2
  rw [Dp.nat] at hr
  obtain ⟨r,h2⟩:=Option.isSome_iff_exists.1 (hp:(Dp.o a0 a1 a2).isSome=true)
  have h3:Dp a0 a1 a2=r:=by unfold Dp; rw [h2]; rfl
  have h4:Dp.K By By.pre a0 a1 a2 some=some r:=h2
  rw [h4,Option.bind_some] at hr
  rw [h3]
  exact ⟨hr,by simp [okV,Nat.blt],clo_spec 8 _ (by kernel_rfl),As (by kernel_rfl)⟩
 ·cases h
section
variable {R:Type} (GH:Int→Int→Int→(TY15)) (GD:Int→Int→Int→Bool) (A2:Bool) (A3:ByteArray) (A8:Bool) (A7:ByteArray) (A6:Bool) (A9:ByteArray) (AB:Bool) (AA:ByteArray) (AD:Bool) (AC:ByteArray) (BI:Bool) (BH:ByteArray) (BG:Bool) (BF:ByteArray) (BE:Bool) (BD:ByteArray) (BC:Bool) (BB:ByteArray) (BA:Bool) (B9:ByteArray) (B8:Bool) (B7:ByteArray) (B6:Bool) (B5:ByteArray) (B4:Bool) (B3:ByteArray) (B2:Bool) (AZ:ByteArray) (AY:Bool) (AX:ByteArray)
noncomputable def Cs.K (k:(Bool)→Option R):Option R:=
 let t0:=GD 0 0 0
 bif t0 then
 let t1:=GH 0 0 0
 k (A2==t1.1&&A3.toList==t1.2.1.toList&&(A8==t1.2.2.1&&A7.toList==t1.2.2.2.1.toList&&(A6==t1.2.2.2.2.1&&A9.toList==t1.2.2.2.2.2.1.toList&&(AB==t1.2.2.2.2.2.2.1&&AA.toList==t1.2.2.2.2.2.2.2.1.toList)))&&(AD==t1.2.2.2.2.2.2.2.2.1&&AC.toList==t1.2.2.2.2.2.2.2.2.2.1.toList)&&(BI==t1.2.2.2.2.2.2.2.2.2.2.1&&BH.toList==t1.2.2.2.2.2.2.2.2.2.2.2.1.toList&&(BG==t1.2.2.2.2.2.2.2.2.2.2.2.2.1&&BF.toList==t1.2.2.2.2.2.2.2.2.2.2.2.2.2.1.toList&&(BE==t1.2.2.2.2.2.2.2.2.2.2.2.2.2.2.1&&BD.toList==t1.2.2.2.2.2.2.2.2.2.2.2.2.2.2.2.1.toList&&(BC==t1.2.2.2.2.2.2.2.2.2.2.2.2.2.2.2.2.1&&BB.toList==t1.2.2.2.2.2.2.2.2.2.2.2.2.2.2.2.2.2.1.toList)))&&(BA==t1.2.2.2.2.2.2.2.2.2.2.2.2.2.2.2.2.2.2.1&&B9.toList==t1.2.2.2.2.2.2.2.2.2.2.2.2.2.2.2.2.2.2.2.1.toList)&&(B8==t1.2.2.2.2.2.2.2.2.2.2.2.2.2.2.2.2.2.2.2.2.1&&B7.toList==t1.2.2.2.2.2.2.2.2.2.2.2.2.2.2.2.2.2.2.2.2.2.1.toList&&(B6==t1.2.2.2.2.2.2.2.2.2.2.2.2.2.2.2.2.2.2.2.2.2.2.1&&B5.toList==t1.2.2.2.2.2.2.2.2.2.2.2.2.2.2.2.2.2.2.2.2.2.2.2.1.toList&&(B4==t1.2.2.2.2.2.2.2.2.2.2.2.2.2.2.2.2.2.2.2.2.2.2.2.2.1&&B3.toList==t1.2.2.2.2.2.2.2.2.2.2.2.2.2.2.2.2.2.2.2.2.2.2.2.2.2.1.toList&&(B2==t1.2.2.2.2.2.2.2.2.2.2.2.2.2.2.2.2.2.2.2.2.2.2.2.2.2.2.1&&AZ.toList==t1.2.2.2.2.2.2.2.2.2.2.2.2.2.2.2.2.2.2.2.2.2.2.2.2.2.2.2.1.toList)))&&(AY==t1.2.2.2.2.2.2.2.2.2.2.2.2.2.2.2.2.2.2.2.2.2.2.2.2.2.2.2.2.1&&AX.toList==t1.2.2.2.2.2.2.2.2.2.2.2.2.2.2.2.2.2.2.2.2.2.2.2.2.2.2.2.2.2.toList)))) else none
theorem Cs.run:xfn Tryz.prog ⟨[(95,Dp.sp GH GD)],[],[]⟩ [] 60 Tryz.f67 [.agg ⟨[.bool A2,.string A3,.bool A8,.string A7,.bool A6,.string A9,.bool AB,.string AA,.bool AD,.string AC,.bool BI,.string BH,.bool BG,.string BF,.bool BE,.string BD,.bool BC,.string BB,.bool BA,.string B9,.bool B8,.string B7,.bool B6,.string B5,.bool B4,.string B3,.bool B2,.string AZ,.bool AY,.string AX]⟩] []=Cs.K GH GD A2 A3 A8 A7 A6 A9 AB AA AD AC BI BH BG BF BE BD BC BB BA B9 B8 B7 B6 B5 B4 B3 B2 AZ AY AX (fun r=>some (.bool r,[])):=by kernel_rfl
noncomputable def Cs.o:Option (Bool):=Cs.K Dp Dp.pre A2 A3 A8 A7 A6 A9 AB AA AD AC BI BH BG BF BE BD BC BB BA B9 B8 B7 B6 B5 B4 B3 B2 AZ AY AX some
noncomputable def Cs.pre:Bool:=(Cs.o A2 A3 A8 A7 A6 A9 AB AA AD AC BI BH BG BF BE BD BC BB BA B9 B8 B7 B6 B5 B4 B3 B2 AZ AY AX).isSome
noncomputable def Cs:Bool:=(Cs.o A2 A3 A8 A7 A6 A9 AB AA AD AC BI BH BG BF BE BD BC BB BA B9 B8 B7 B6 B5 B4 B3 B2 AZ AY AX).getD default
theorem Cs.nat (k:(Bool)→Option R):Cs.K GH GD A2 A3 A8 A7 A6 A9 AB AA AD AC BI BH BG BF BE BD BC BB BA B9 B8 B7 B6 B5 B4 B3 B2 AZ AY AX k=(Cs.K GH GD A2 A3 A8 A7 A6 A9 AB AA AD AC BI BH BG BF BE BD BC BB BA B9 B8 B7 B6 B5 B4 B3 B2 AZ AY AX some).bind k:=by
 simp only [Cs.K,bcond,Option.bind_some,Option.bind_none]
theorem Cs.os {x y z:Q} (ox:x.ok=true) (oy:y.ok=true) (oz:z.ok=true):Cs.o (dI x.c0).1 (dI x.c0).2 (dI x.c1).1 (dI x.c1).2 (dI x.c2).1 (dI x.c2).2 (dI x.c3).1 (dI x.c3).2 (dI x.d).1 (dI x.d).2 (dI y.c0).1 (dI y.c0).2 (dI y.c1).1 (dI y.c1).2 (dI y.c2).1 (dI y.c2).2 (dI y.c3).1 (dI y.c3).2 (dI y.d).1 (dI y.d).2 (dI z.c0).1 (dI z.c0).2 (dI z.c1).1 (dI z.c1).2 (dI z.c2).1 (dI z.c2).2 (dI z.c3).1 (dI z.c3).2 (dI z.d).1 (dI z.d).2=some (x.nul&&(y.nul&&z.nul)):=by
 have e:∀ {w:Q},w.ok=true→(w.c0==0&&(w.c1==0&&(w.c2==0&&w.c3==0))&&w.d==1)=w.nul:=fun {w} ow=>by
  cases hn:w.nul with
  |true=>rw [QX ow hn]; rfl
  | false=>
   have:(w.c0==0&&(w.c1==0&&(w.c2==0&&w.c3==0)))=w.nul:=by unfold Q.nul; simp only [Bool.and_assoc]
   rw [this,hn]; rfl
 have z0:(qof 0).c0=0∧(qof 0).c1=0∧(qof 0).c2=0∧(qof 0).c3=0∧(qof 0).d=1:=⟨rfl,rfl,rfl,rfl,rfl⟩
 simp only [Cs.o,Cs.K,Dp.ps,Dp.es,cond_true,Kh,z0.1,z0.2.1,z0.2.2.1,z0.2.2.2.1,z0.2.2.2.2]
 rw [←e ox,←e oy,←e oz]
theorem Cs.ps {x y z:Q} (ox:x.ok=true) (oy:y.ok=true) (oz:z.ok=true):Cs.pre (dI x.c0).1 (dI x.c0).2 (dI x.c1).1 (dI x.c1).2 (dI x.c2).1 (dI x.c2).2 (dI x.c3).1 (dI x.c3).2 (dI x.d).1 (dI x.d).2 (dI y.c0).1 (dI y.c0).2 (dI y.c1).1 (dI y.c1).2 (dI y.c2).1 (dI y.c2).2 (dI y.c3).1 (dI y.c3).2 (dI y.d).1 (dI y.d).2 (dI z.c0).1 (dI z.c0).2 (dI z.c1).1 (dI z.c1).2 (dI z.c2).1 (dI z.c2).2 (dI z.c3).1 (dI z.c3).2 (dI z.d).1 (dI z.d).2=true:=Ey (Cs.os ox oy oz)
theorem Cs.es {x y z:Q} (ox:x.ok=true) (oy:y.ok=true) (oz:z.ok=true):Cs (dI x.c0).1 (dI x.c0).2 (dI x.c1).1 (dI x.c1).2 (dI x.c2).1 (dI x.c2).2 (dI x.c3).1 (dI x.c3).2 (dI x.d).1 (dI x.d).2 (dI y.c0).1 (dI y.c0).2 (dI y.c1).1 (dI y.c1).2 (dI y.c2).1 (dI y.c2).2 (dI y.c3).1 (dI y.c3).2 (dI y.d).1 (dI y.d).2 (dI z.c0).1 (dI z.c0).2 (dI z.c1).1 (dI z.c1).2 (dI z.c2).1 (dI z.c2).2 (dI z.c3).1 (dI z.c3).2 (dI z.d).1 (dI z.d).2=(x.nul&&(y.nul&&z.nul)):=Fq (Cs.os ox oy oz)
end
theorem Cs.ok:SOK Tryz.prog 67 (Cs.sp Cs Cs.pre):=by
 refine Cq (E:=⟨[(95,Dp.sp Dp Dp.pre)],[],[]⟩) (L:=[]) ⟨(Aa Dp.ok Ac),Ai,Ad,Ah⟩ 60 Tryz.func67 (by decide) rfl Bs fun vs bl v bl' h=> ?_
 unfold Cs.sp at h
 split at h
 ·rename_i A2 A3 A8 A7 A6 A9 AB AA AD AC BI BH BG BF BE BD BC BB BA B9 B8 B7 B6 B5 B4 B3 B2 AZ AY AX
  simp only [Option.some.injEq,Prod.mk.injEq] at h
  obtain ⟨hp,rfl,rfl⟩:=h
  have hr:=Cs.run Dp Dp.pre A2 A3 A8 A7 A6 A9 AB AA AD AC BI BH BG BF BE BD BC BB BA B9 B8 B7 B6 B5 B4 B3 B2 AZ AY AX
  rw [Cs.nat] at hr
  obtain ⟨r,h2⟩:=Option.isSome_iff_exists.1 (hp:(Cs.o A2 A3 A8 A7 A6 A9 AB AA AD AC BI BH BG BF BE BD BC BB BA B9 B8 B7 B6 B5 B4 B3 B2 AZ AY AX).isSome=true)
  have h3:Cs A2 A3 A8 A7 A6 A9 AB AA AD AC BI BH BG BF BE BD BC BB BA B9 B8 B7 B6 B5 B4 B3 B2 AZ AY AX=r:=by unfold Cs; rw [h2]; rfl
  have h4:Cs.K Dp Dp.pre A2 A3 A8 A7 A6 A9 AB AA AD AC BI BH BG BF BE BD BC BB BA B9 B8 B7 B6 B5 B4 B3 B2 AZ AY AX some=some r:=h2
  rw [h4,Option.bind_some] at hr
  rw [h3]
  exact ⟨hr,by simp [okV,Nat.blt],clo_spec 8 _ (by kernel_rfl),As (by kernel_rfl)⟩
 ·cases h
section
variable {R:Type} (DY:TF15 (Bool)) (DX:TF15 Bool) (G7:TF15 (Bool)) (G5:TF15 Bool) (C0:TF5 (Bool)) (BZ:TF5 Bool) (A2:Bool) (A3:ByteArray) (A8:Bool) (A7:ByteArray) (A6:Bool) (A9:ByteArray) (AB:Bool) (AA:ByteArray) (AD:Bool) (AC:ByteArray) (BI:Bool) (BH:ByteArray) (BG:Bool) (BF:ByteArray) (BE:Bool) (BD:ByteArray) (BC:Bool) (BB:ByteArray) (BA:Bool) (B9:ByteArray) (B8:Bool) (B7:ByteArray) (B6:Bool) (B5:ByteArray) (B4:Bool) (B3:ByteArray) (B2:Bool) (AZ:ByteArray) (AY:Bool) (AX:ByteArray) (CH:Bool) (CG:ByteArray) (CF:Bool) (CE:ByteArray) (CD:Bool) (CC:ByteArray) (CB:Bool) (CA:ByteArray) (C9:Bool) (C8:ByteArray)
noncomputable def Ct.K (k:(Bool)→Option R):Option R:=
 let t0:=DX A2 A3 A8 A7 A6 A9 AB AA AD AC BI BH BG BF BE BD BC BB BA B9 B8 B7 B6 B5 B4 B3 B2 AZ AY AX
 bif t0 then
 let t1:=DY A2 A3 A8 A7 A6 A9 AB AA AD AC BI BH BG BF BE BD BC BB BA B9 B8 B7 B6 B5 B4 B3 B2 AZ AY AX
 bif t1 then
 let t2:=G5 A2 A3 A8 A7 A6 A9 AB AA AD AC BI BH BG BF BE BD BC BB BA B9 B8 B7 B6 B5 B4 B3 B2 AZ AY AX
 bif t2 then
 let t3:=G7 A2 A3 A8 A7 A6 A9 AB AA AD AC BI BH BG BF BE BD BC BB BA B9 B8 B7 B6 B5 B4 B3 B2 AZ AY AX
 bif !t3 then
 let t4:=BZ CH CG CF CE CD CC CB CA C9 C8
 bif t4 then
 let t5:=C0 CH CG CF CE CD CC CB CA C9 C8
 k (t5) else none else k (false) else none else k (false) else none
theorem Ct.run:xfn Tryz.prog ⟨[(66,Cy.sp DY DX),(67,Cs.sp G7 G5),(68,Ae.sp C0 BZ)],[],[]⟩ [] 60 Tryz.f28 [.agg ⟨.bool A2:: .string A3:: .bool A8:: .string A7:: .bool A6:: .string A9:: .bool AB:: .string AA:: .bool AD:: .string AC:: .bool BI:: .string BH:: .bool BG:: .string BF:: .bool BE:: .string BD:: .bool BC:: .string BB:: .bool BA:: .string B9:: .bool B8:: .string B7:: .bool B6:: .string B5:: .bool B4:: .string B3:: .bool B2:: .string AZ:: .bool AY:: .string AX:: .bool CH:: .string CG:: .bool CF:: .string CE:: .bool CD:: .string CC:: .bool CB:: .string CA:: .bool C9:: .string C8::[]⟩] []=Ct.K DY DX G7 G5 C0 BZ A2 A3 A8 A7 A6 A9 AB AA AD AC BI BH BG BF BE BD BC BB BA B9 B8 B7 B6 B5 B4 B3 B2 AZ AY AX CH CG CF CE CD CC CB CA C9 C8 (fun r=>some (.bool r,[])):=by kernel_rfl
noncomputable def Ct.o:Option (Bool):=Ct.K Cy Cy.pre Cs Cs.pre Ae Ae.pre A2 A3 A8 A7 A6 A9 AB AA AD AC BI BH BG BF BE BD BC BB BA B9 B8 B7 B6 B5 B4 B3 B2 AZ AY AX CH CG CF CE CD CC CB CA C9 C8 some
noncomputable def Ct.pre:Bool:=(Ct.o A2 A3 A8 A7 A6 A9 AB AA AD AC BI BH BG BF BE BD BC BB BA B9 B8 B7 B6 B5 B4 B3 B2 AZ AY AX CH CG CF CE CD CC CB CA C9 C8).isSome
noncomputable def Ct:Bool:=(Ct.o A2 A3 A8 A7 A6 A9 AB AA AD AC BI BH BG BF BE BD BC BB BA B9 B8 B7 B6 B5 B4 B3 B2 AZ AY AX CH CG CF CE CD CC CB CA C9 C8).getD default
theorem Ct.nat (k:(Bool)→Option R):Ct.K DY DX G7 G5 C0 BZ A2 A3 A8 A7 A6 A9 AB AA AD AC BI BH BG BF BE BD BC BB BA B9 B8 B7 B6 B5 B4 B3 B2 AZ AY AX CH CG CF CE CD CC CB CA C9 C8 k=(Ct.K DY DX G7 G5 C0 BZ A2 A3 A8 A7 A6 A9 AB AA AD AC BI BH BG BF BE BD BC BB BA B9 B8 B7 B6 B5 B4 B3 B2 AZ AY AX CH CG CF CE CD CC CB CA C9 C8 some).bind k:=by
 simp only [Ct.K,bcond,Option.bind_some,Option.bind_none]
end
theorem Cy.ps {k:Nat} {x y z:Q} (hx:x.Bd k) (hy:y.Bd k) (hz:z.Bd k) (hk:k≤LIM):Cy.pre (dI x.c0).1 (dI x.c0).2 (dI x.c1).1 (dI x.c1).2 (dI x.c2).1 (dI x.c2).2 (dI x.c3).1 (dI x.c3).2 (dI x.d).1 (dI x.d).2 (dI y.c0).1 (dI y.c0).2 (dI y.c1).1 (dI y.c1).2 (dI y.c2).1 (dI y.c2).2 (dI y.c3).1 (dI y.c3).2 (dI y.d).1 (dI y.d).2 (dI z.c0).1 (dI z.c0).2 (dI z.c1).1 (dI z.c1).2 (dI z.c2).1 (dI z.c2).2 (dI z.c3).1 (dI z.c3).2 (dI z.d).1 (dI z.d).2=true:=by
 simp only [Cy.pre,Ae.ps hx hk,Ae.ps hy hk,Ae.ps hz hk,Bool.and_self]
theorem Cy.es {k:Nat} {x y z:Q} (hx:x.Bd k) (hy:y.Bd k) (hz:z.Bd k) (hk:k≤LIM):Cy (dI x.c0).1 (dI x.c0).2 (dI x.c1).1 (dI x.c1).2 (dI x.c2).1 (dI x.c2).2 (dI x.c3).1 (dI x.c3).2 (dI x.d).1 (dI x.d).2 (dI y.c0).1 (dI y.c0).2 (dI y.c1).1 (dI y.c1).2 (dI y.c2).1 (dI y.c2).2 (dI y.c3).1 (dI y.c3).2 (dI y.d).1 (dI y.d).2 (dI z.c0).1 (dI z.c0).2 (dI z.c1).1 (dI z.c1).2 (dI z.c2).1 (dI z.c2).2 (dI z.c3).1 (dI z.c3).2 (dI z.d).1 (dI z.d).2=(x.ok&&(y.ok&&z.ok)):=by
 simp only [Cy,Ae.es hx hk,Ae.es hy hk,Ae.es hz hk]
theorem Ct.os {k:Nat} {x y z q:Q} (hx:x.Bd k) (hy:y.Bd k) (hz:z.Bd k) (hq:q.Bd k) (hk:k≤LIM) (ox:x.ok=true) (oy:y.ok=true) (oz:z.ok=true) (oq:q.ok=true):Ct.o (dI x.c0).1 (dI x.c0).2 (dI x.c1).1 (dI x.c1).2 (dI x.c2).1 (dI x.c2).2 (dI x.c3).1 (dI x.c3).2 (dI x.d).1 (dI x.d).2 (dI y.c0).1 (dI y.c0).2 (dI y.c1).1 (dI y.c1).2 (dI y.c2).1 (dI y.c2).2 (dI y.c3).1 (dI y.c3).2 (dI y.d).1 (dI y.d).2 (dI z.c0).1 (dI z.c0).2 (dI z.c1).1 (dI z.c1).2 (dI z.c2).1 (dI z.c2).2 (dI z.c3).1 (dI z.c3).2 (dI z.d).1 (dI z.d).2 (dI q.c0).1 (dI q.c0).2 (dI q.c1).1 (dI q.c1).2 (dI q.c2).1 (dI q.c2).2 (dI q.c3).1 (dI q.c3).2 (dI q.d).1 (dI q.d).2=some (!(x.nul&&(y.nul&&z.nul))):=by
 simp only [Ct.o,Ct.K,Cy.ps hx hy hz hk,Cy.es hx hy hz hk,Cs.ps ox oy oz,Cs.es ox oy oz,Ae.ps hq hk,Ae.es hq hk,ox,oy,oz,oq,Bool.and_self,cond_true]
 cases (x.nul&&(y.nul&&z.nul))<;>rfl
theorem Ct.ps {k:Nat} {x y z q:Q} (hx:x.Bd k) (hy:y.Bd k) (hz:z.Bd k) (hq:q.Bd k) (hk:k≤LIM) (ox:x.ok=true) (oy:y.ok=true) (oz:z.ok=true) (oq:q.ok=true):Ct.pre (dI x.c0).1 (dI x.c0).2 (dI x.c1).1 (dI x.c1).2 (dI x.c2).1 (dI x.c2).2 (dI x.c3).1 (dI x.c3).2 (dI x.d).1 (dI x.d).2 (dI y.c0).1 (dI y.c0).2 (dI y.c1).1 (dI y.c1).2 (dI y.c2).1 (dI y.c2).2 (dI y.c3).1 (dI y.c3).2 (dI y.d).1 (dI y.d).2 (dI z.c0).1 (dI z.c0).2 (dI z.c1).1 (dI z.c1).2 (dI z.c2).1 (dI z.c2).2 (dI z.c3).1 (dI z.c3).2 (dI z.d).1 (dI z.d).2 (dI q.c0).1 (dI q.c0).2 (dI q.c1).1 (dI q.c1).2 (dI q.c2).1 (dI q.c2).2 (dI q.c3).1 (dI q.c3).2 (dI q.d).1 (dI q.d).2=true:=Ey (Ct.os hx hy hz hq hk ox oy oz oq)
theorem Ct.es {k:Nat} {x y z q:Q} (hx:x.Bd k) (hy:y.Bd k) (hz:z.Bd k) (hq:q.Bd k) (hk:k≤LIM) (ox:x.ok=true) (oy:y.ok=true) (oz:z.ok=true) (oq:q.ok=true):Ct (dI x.c0).1 (dI x.c0).2 (dI x.c1).1 (dI x.c1).2 (dI x.c2).1 (dI x.c2).2 (dI x.c3).1 (dI x.c3).2 (dI x.d).1 (dI x.d).2 (dI y.c0).1 (dI y.c0).2 (dI y.c1).1 (dI y.c1).2 (dI y.c2).1 (dI y.c2).2 (dI y.c3).1 (dI y.c3).2 (dI y.d).1 (dI y.d).2 (dI z.c0).1 (dI z.c0).2 (dI z.c1).1 (dI z.c1).2 (dI z.c2).1 (dI z.c2).2 (dI z.c3).1 (dI z.c3).2 (dI z.d).1 (dI z.d).2 (dI q.c0).1 (dI q.c0).2 (dI q.c1).1 (dI q.c1).2 (dI q.c2).1 (dI q.c2).2 (dI q.c3).1 (dI q.c3).2 (dI q.d).1 (dI q.d).2=(!(x.nul&&(y.nul&&z.nul))):=Fq (Ct.os hx hy hz hq hk ox oy oz oq)
theorem Ct.ok:SOK Tryz.prog 28 (Ct.sp Ct Ct.pre):=by
 refine Cq (E:=⟨[(66,Cy.sp Cy Cy.pre),(67,Cs.sp Cs Cs.pre),(68,Ae.sp Ae Ae.pre)],[],[]⟩) (L:=[]) ⟨(Aa Cy.ok (Aa Cs.ok (Aa Ae.ok Ac))),Ai,Ad,Ah⟩ 60 Tryz.func28 (by decide) rfl Bs fun vs bl v bl' h=> ?_
 unfold Ct.sp at h
 split at h
 ·rename_i A2 A3 A8 A7 A6 A9 AB AA AD AC BI BH BG BF BE BD BC BB BA B9 B8 B7 B6 B5 B4 B3 B2 AZ AY AX CH CG CF CE CD CC CB CA C9 C8
  simp only [Option.some.injEq,Prod.mk.injEq] at h
  obtain ⟨hp,rfl,rfl⟩:=h
  have hr:=Ct.run Cy Cy.pre Cs Cs.pre Ae Ae.pre A2 A3 A8 A7 A6 A9 AB AA AD AC BI BH BG BF BE BD BC BB BA B9 B8 B7 B6 B5 B4 B3 B2 AZ AY AX CH CG CF CE CD CC CB CA C9 C8
  rw [Ct.nat] at hr
  obtain ⟨r,h2⟩:=Option.isSome_iff_exists.1 (hp:(Ct.o A2 A3 A8 A7 A6 A9 AB AA AD AC BI BH BG BF BE BD BC BB BA B9 B8 B7 B6 B5 B4 B3 B2 AZ AY AX CH CG CF CE CD CC CB CA C9 C8).isSome=true)
  have h3:Ct A2 A3 A8 A7 A6 A9 AB AA AD AC BI BH BG BF BE BD BC BB BA B9 B8 B7 B6 B5 B4 B3 B2 AZ AY AX CH CG CF CE CD CC CB CA C9 C8=r:=by unfold Ct; rw [h2]; rfl
  have h4:Ct.K Cy Cy.pre Cs Cs.pre Ae Ae.pre A2 A3 A8 A7 A6 A9 AB AA AD AC BI BH BG BF BE BD BC BB BA B9 B8 B7 B6 B5 B4 B3 B2 AZ AY AX CH CG CF CE CD CC CB CA C9 C8 some=some r:=h2
  rw [h4,Option.bind_some] at hr
  rw [h3]
  exact ⟨hr,by simp [okV,Nat.blt],clo_spec 8 _ (by kernel_rfl),As (by kernel_rfl)⟩
 ·cases h
section
variable {R:Type} (E8:TF10 (TY5)) (E7:TF10 Bool) (DY:TF15 (Bool)) (DX:TF15 Bool) (DW:TF10 (TY5)) (DV:TF10 Bool) (A2:Bool) (A3:ByteArray) (A8:Bool) (A7:ByteArray) (A6:Bool) (A9:ByteArray) (AB:Bool) (AA:ByteArray) (AD:Bool) (AC:ByteArray) (BI:Bool) (BH:ByteArray) (BG:Bool) (BF:ByteArray) (BE:Bool) (BD:ByteArray) (BC:Bool) (BB:ByteArray) (BA:Bool) (B9:ByteArray) (B8:Bool) (B7:ByteArray) (B6:Bool) (B5:ByteArray) (B4:Bool) (B3:ByteArray) (B2:Bool) (AZ:ByteArray) (AY:Bool) (AX:ByteArray) (A5:Bool) (A4:ByteArray) (AF:Bool) (AE:ByteArray) (AH:Bool) (AG:ByteArray) (AO:Bool) (AN:ByteArray) (AK:Bool) (AJ:ByteArray) (DO:Bool) (DN:ByteArray) (DM:Bool) (DL:ByteArray) (DK:Bool) (DJ:ByteArray) (DI:Bool) (DH:ByteArray) (DG:Bool) (DF:ByteArray) (DE:Bool) (DD:ByteArray) (DC:Bool) (DB:ByteArray) (DA:Bool) (D9:ByteArray) (D8:Bool) (D7:ByteArray) (D6:Bool) (D5:ByteArray)
noncomputable def Dd.K (k:TY5→Option R):Option R:=
 let t0:=DX A2 A3 A8 A7 A6 A9 AB AA AD AC BI BH BG BF BE BD BC BB BA B9 B8 B7 B6 B5 B4 B3 B2 AZ AY AX
 bif t0 then
 let t1:=DY A2 A3 A8 A7 A6 A9 AB AA AD AC BI BH BG BF BE BD BC BB BA B9 B8 B7 B6 B5 B4 B3 B2 AZ AY AX
 bif !t1 then
 let t2:=DV false {data:= #[]} false {data:= #[]} false {data:= #[]} false {data:= #[]} false {data:= #[]} false {data:= #[]} false {data:= #[]} false {data:= #[]} false {data:= #[]} false {data:= #[]}
 bif t2 then
 let t3:=DW false {data:= #[]} false {data:= #[]} false {data:= #[]} false {data:= #[]} false {data:= #[]} false {data:= #[]} false {data:= #[]} false {data:= #[]} false {data:= #[]} false {data:= #[]}
 let t4:=DV t3.1 t3.2.1 t3.2.2.1 t3.2.2.2.1 t3.2.2.2.2.1 t3.2.2.2.2.2.1 t3.2.2.2.2.2.2.1 t3.2.2.2.2.2.2.2.1 t3.2.2.2.2.2.2.2.2.1 t3.2.2.2.2.2.2.2.2.2 false {data:= #[]} false {data:= #[]} false {data:= #[]} false {data:= #[]} false {data:= #[]}
 bif t4 then
 let t5:=DW t3.1 t3.2.1 t3.2.2.1 t3.2.2.2.1 t3.2.2.2.2.1 t3.2.2.2.2.2.1 t3.2.2.2.2.2.2.1 t3.2.2.2.2.2.2.2.1 t3.2.2.2.2.2.2.2.2.1 t3.2.2.2.2.2.2.2.2.2 false {data:= #[]} false {data:= #[]} false {data:= #[]} false {data:= #[]} false {data:= #[]}
 k (t5.1,t5.2.1,t5.2.2.1,t5.2.2.2.1,t5.2.2.2.2.1,t5.2.2.2.2.2.1,t5.2.2.2.2.2.2.1,t5.2.2.2.2.2.2.2.1,t5.2.2.2.2.2.2.2.2.1,t5.2.2.2.2.2.2.2.2.2) else none else none else
 let t6:=DX A5 A4 AF AE AH AG AO AN AK AJ DO DN DM DL DK DJ DI DH DG DF DE DD DC DB DA D9 D8 D7 D6 D5
 bif t6 then
 let t7:=DY A5 A4 AF AE AH AG AO AN AK AJ DO DN DM DL DK DJ DI DH DG DF DE DD DC DB DA D9 D8 D7 D6 D5
 bif !t7 then
 let t8:=DV false {data:= #[]} false {data:= #[]} false {data:= #[]} false {data:= #[]} false {data:= #[]} false {data:= #[]} false {data:= #[]} false {data:= #[]} false {data:= #[]} false {data:= #[]}
 bif t8 then
 let t9:=DW false {data:= #[]} false {data:= #[]} false {data:= #[]} false {data:= #[]} false {data:= #[]} false {data:= #[]} false {data:= #[]} false {data:= #[]} false {data:= #[]} false {data:= #[]}
 let t10:=DV t9.1 t9.2.1 t9.2.2.1 t9.2.2.2.1 t9.2.2.2.2.1 t9.2.2.2.2.2.1 t9.2.2.2.2.2.2.1 t9.2.2.2.2.2.2.2.1 t9.2.2.2.2.2.2.2.2.1 t9.2.2.2.2.2.2.2.2.2 false {data:= #[]} false {data:= #[]} false {data:= #[]} false {data:= #[]} false {data:= #[]}
 bif t10 then
 let t11:=DW t9.1 t9.2.1 t9.2.2.1 t9.2.2.2.1 t9.2.2.2.2.1 t9.2.2.2.2.2.1 t9.2.2.2.2.2.2.1 t9.2.2.2.2.2.2.2.1 t9.2.2.2.2.2.2.2.2.1 t9.2.2.2.2.2.2.2.2.2 false {data:= #[]} false {data:= #[]} false {data:= #[]} false {data:= #[]} false {data:= #[]}
 k (t11.1,t11.2.1,t11.2.2.1,t11.2.2.2.1,t11.2.2.2.2.1,t11.2.2.2.2.2.1,t11.2.2.2.2.2.2.1,t11.2.2.2.2.2.2.2.1,t11.2.2.2.2.2.2.2.2.1,t11.2.2.2.2.2.2.2.2.2) else none else none else
 let t12:=E7 A2 A3 A8 A7 A6 A9 AB AA AD AC A5 A4 AF AE AH AG AO AN AK AJ
 bif t12 then
 let t13:=E7 BI BH BG BF BE BD BC BB BA B9 DO DN DM DL DK DJ DI DH DG DF
 bif t13 then
 let t14:=E7 B8 B7 B6 B5 B4 B3 B2 AZ AY AX DE DD DC DB DA D9 D8 D7 D6 D5
 bif t14 then
 let t15:=E8 A2 A3 A8 A7 A6 A9 AB AA AD AC A5 A4 AF AE AH AG AO AN AK AJ
 let t16:=E8 BI BH BG BF BE BD BC BB BA B9 DO DN DM DL DK DJ DI DH DG DF
 let t17:=DV t15.1 t15.2.1 t15.2.2.1 t15.2.2.2.1 t15.2.2.2.2.1 t15.2.2.2.2.2.1 t15.2.2.2.2.2.2.1 t15.2.2.2.2.2.2.2.1 t15.2.2.2.2.2.2.2.2.1 t15.2.2.2.2.2.2.2.2.2 t16.1 t16.2.1 t16.2.2.1 t16.2.2.2.1 t16.2.2.2.2.1 t16.2.2.2.2.2.1 t16.2.2.2.2.2.2.1 t16.2.2.2.2.2.2.2.1 t16.2.2.2.2.2.2.2.2.1 t16.2.2.2.2.2.2.2.2.2
 bif t17 then
 let t18:=DW t15.1 t15.2.1 t15.2.2.1 t15.2.2.2.1 t15.2.2.2.2.1 t15.2.2.2.2.2.1 t15.2.2.2.2.2.2.1 t15.2.2.2.2.2.2.2.1 t15.2.2.2.2.2.2.2.2.1 t15.2.2.2.2.2.2.2.2.2 t16.1 t16.2.1 t16.2.2.1 t16.2.2.2.1 t16.2.2.2.2.1 t16.2.2.2.2.2.1 t16.2.2.2.2.2.2.1 t16.2.2.2.2.2.2.2.1 t16.2.2.2.2.2.2.2.2.1 t16.2.2.2.2.2.2.2.2.2
 let t19:=E8 B8 B7 B6 B5 B4 B3 B2 AZ AY AX DE DD DC DB DA D9 D8 D7 D6 D5
 let t20:=DV t18.1 t18.2.1 t18.2.2.1 t18.2.2.2.1 t18.2.2.2.2.1 t18.2.2.2.2.2.1 t18.2.2.2.2.2.2.1 t18.2.2.2.2.2.2.2.1 t18.2.2.2.2.2.2.2.2.1 t18.2.2.2.2.2.2.2.2.2 t19.1 t19.2.1 t19.2.2.1 t19.2.2.2.1 t19.2.2.2.2.1 t19.2.2.2.2.2.1 t19.2.2.2.2.2.2.1 t19.2.2.2.2.2.2.2.1 t19.2.2.2.2.2.2.2.2.1 t19.2.2.2.2.2.2.2.2.2
 bif t20 then
 let t21:=DW t18.1 t18.2.1 t18.2.2.1 t18.2.2.2.1 t18.2.2.2.2.1 t18.2.2.2.2.2.1 t18.2.2.2.2.2.2.1 t18.2.2.2.2.2.2.2.1 t18.2.2.2.2.2.2.2.2.1 t18.2.2.2.2.2.2.2.2.2 t19.1 t19.2.1 t19.2.2.1 t19.2.2.2.1 t19.2.2.2.2.1 t19.2.2.2.2.2.1 t19.2.2.2.2.2.2.1 t19.2.2.2.2.2.2.2.1 t19.2.2.2.2.2.2.2.2.1 t19.2.2.2.2.2.2.2.2.2
 k (t21.1,t21.2.1,t21.2.2.1,t21.2.2.2.1,t21.2.2.2.2.1,t21.2.2.2.2.2.1,t21.2.2.2.2.2.2.1,t21.2.2.2.2.2.2.2.1,t21.2.2.2.2.2.2.2.2.1,t21.2.2.2.2.2.2.2.2.2) else none else none else none else none else none else none else none
theorem Dd.run:xfn Tryz.prog ⟨[(69,Co.sp E8 E7),(66,Cy.sp DY DX),(71,Cl.sp DW DV)],[(70,Tryz.f70)],[]⟩ [] 60 Tryz.f29 [.agg ⟨[.bool A2,.string A3,.bool A8,.string A7,.bool A6,.string A9,.bool AB,.string AA,.bool AD,.string AC,.bool BI,.string BH,.bool BG,.string BF,.bool BE,.string BD,.bool BC,.string BB,.bool BA,.string B9,.bool B8,.string B7,.bool B6,.string B5,.bool B4,.string B3,.bool B2,.string AZ,.bool AY,.string AX]⟩,.agg ⟨[.bool A5,.string A4,.bool AF,.string AE,.bool AH,.string AG,.bool AO,.string AN,.bool AK,.string AJ,.bool DO,.string DN,.bool DM,.string DL,.bool DK,.string DJ,.bool DI,.string DH,.bool DG,.string DF,.bool DE,.string DD,.bool DC,.string DB,.bool DA,.string D9,.bool D8,.string D7,.bool D6,.string D5]⟩] []=Dd.K E8 E7 DY DX DW DV A2 A3 A8 A7 A6 A9 AB AA AD AC BI BH BG BF BE BD BC BB BA B9 B8 B7 B6 B5 B4 B3 B2 AZ AY AX A5 A4 AF AE AH AG AO AN AK AJ DO DN DM DL DK DJ DI DH DG DF DE DD DC DB DA D9 D8 D7 D6 D5 (fun r=>some (.agg ⟨[.bool r.1,.string r.2.1,.bool r.2.2.1,.string r.2.2.2.1,.bool r.2.2.2.2.1,.string r.2.2.2.2.2.1,.bool r.2.2.2.2.2.2.1,.string r.2.2.2.2.2.2.2.1,.bool r.2.2.2.2.2.2.2.2.1,.string r.2.2.2.2.2.2.2.2.2]⟩,[])):=by kernel_rfl
noncomputable def Dd.o:Option (TY5):=Dd.K Co Co.pre Cy Cy.pre Cl Cl.pre A2 A3 A8 A7 A6 A9 AB AA AD AC BI BH BG BF BE BD BC BB BA B9 B8 B7 B6 B5 B4 B3 B2 AZ AY AX A5 A4 AF AE AH AG AO AN AK AJ DO DN DM DL DK DJ DI DH DG DF DE DD DC DB DA D9 D8 D7 D6 D5 some
noncomputable def Dd.pre:Bool:=(Dd.o A2 A3 A8 A7 A6 A9 AB AA AD AC BI BH BG BF BE BD BC BB BA B9 B8 B7 B6 B5 B4 B3 B2 AZ AY AX A5 A4 AF AE AH AG AO AN AK AJ DO DN DM DL DK DJ DI DH DG DF DE DD DC DB DA D9 D8 D7 D6 D5).isSome
noncomputable def Dd:TY5:=(Dd.o A2 A3 A8 A7 A6 A9 AB AA AD AC BI BH BG BF BE BD BC BB BA B9 B8 B7 B6 B5 B4 B3 B2 AZ AY AX A5 A4 AF AE AH AG AO AN AK AJ DO DN DM DL DK DJ DI DH DG DF DE DD DC DB DA D9 D8 D7 D6 D5).getD default
theorem Dd.nat (k:TY5→Option R):Dd.K E8 E7 DY DX DW DV A2 A3 A8 A7 A6 A9 AB AA AD AC BI BH BG BF BE BD BC BB BA B9 B8 B7 B6 B5 B4 B3 B2 AZ AY AX A5 A4 AF AE AH AG AO AN AK AJ DO DN DM DL DK DJ DI DH DG DF DE DD DC DB DA D9 D8 D7 D6 D5 k=(Dd.K E8 E7 DY DX DW DV A2 A3 A8 A7 A6 A9 AB AA AD AC BI BH BG BF BE BD BC BB BA B9 B8 B7 B6 B5 B4 B3 B2 AZ AY AX A5 A4 AF AE AH AG AO AN AK AJ DO DN DM DL DK DJ DI DH DG DF DE DD DC DB DA D9 D8 D7 D6 D5 some).bind k:=by
 simp only [Dd.K,bcond,Option.bind_some,Option.bind_none]
end
def qsq (x y z:Q):Q:=qadd (qadd (qmul x x) (qmul y y)) (qmul z z)
theorem Rz {x y z:Q} (ox:x.ok=true) (oy:y.ok=true) (oz:z.ok=true):(qsq x y z).ok=true:=Iq (Iq (Fm ox ox) (Fm oy oy)) (Fm oz oz)
theorem qsq_bd {k:Nat} {x y z:Q} (hx:x.Bd k) (hy:y.Bd k) (hz:z.Bd k) (ox:x.ok=true) (oy:y.ok=true) (oz:z.ok=true):(qsq x y z).Bd (6*k+17):=
 (Ln (Ln (Gl hx hx ox ox) (Gl hy hy oy oy) (Fm ox ox) (Fm oy oy)) (Gl hz hz oz oz) (Iq (Fm ox ox) (Fm oy oy)) (Fm oz oz)).mono (by omega)
theorem Dd.os {k:Nat} {x y z:Q} (hx:x.Bd k) (hy:y.Bd k) (hz:z.Bd k) (hk:6*k+20≤4000000) (ox:x.ok=true) (oy:y.ok=true) (oz:z.ok=true):Dd.o (dI x.c0).1 (dI x.c0).2 (dI x.c1).1 (dI x.c1).2 (dI x.c2).1 (dI x.c2).2 (dI x.c3).1 (dI x.c3).2 (dI x.d).1 (dI x.d).2 (dI y.c0).1 (dI y.c0).2 (dI y.c1).1 (dI y.c1).2 (dI y.c2).1 (dI y.c2).2 (dI y.c3).1 (dI y.c3).2 (dI y.d).1 (dI y.d).2 (dI z.c0).1 (dI z.c0).2 (dI z.c1).1 (dI z.c1).2 (dI z.c2).1 (dI z.c2).2 (dI z.c3).1 (dI z.c3).2 (dI z.d).1 (dI z.d).2 (dI x.c0).1 (dI x.c0).2 (dI x.c1).1 (dI x.c1).2 (dI x.c2).1 (dI x.c2).2 (dI x.c3).1 (dI x.c3).2 (dI x.d).1 (dI x.d).2 (dI y.c0).1 (dI y.c0).2 (dI y.c1).1 (dI y.c1).2 (dI y.c2).1 (dI y.c2).2 (dI y.c3).1 (dI y.c3).2 (dI y.d).1 (dI y.d).2 (dI z.c0).1 (dI z.c0).2 (dI z.c1).1 (dI z.c1).2 (dI z.c2).1 (dI z.c2).2 (dI z.c3).1 (dI z.c3).2 (dI z.d).1 (dI z.d).2=some (C5 (qsq x y z)):=by
 have hL:k≤LIM:=by unfold LIM; omega
 have hP:k≤PRM:=by unfold PRM; omega
 have mp:=fun {w:Q} (hw:w.Bd k)=>Co.ps hw hw hP hP
 have me:∀ {w:Q},w.Bd k→w.ok=true→Co (dI w.c0).1 (dI w.c0).2 (dI w.c1).1 (dI w.c1).2 (dI w.c2).1 (dI w.c2).2 (dI w.c3).1 (dI w.c3).2 (dI w.d).1 (dI w.d).2 (dI w.c0).1 (dI w.c0).2 (dI w.c1).1 (dI w.c1).2 (dI w.c2).1 (dI w.c2).2 (dI w.c3).1 (dI w.c3).2 (dI w.d).1 (dI w.d).2=C5 (qmul w w):=fun hw ow=>by
  have:=Co.es hw hw hP hP
  rw [ow] at this
  exact this
 have bx:=Gl hx hx ox ox
 have by':=Gl hy hy oy oy
 have bz:=Gl hz hz oz oz
 have kx:=Fm ox ox
 have ky:=Fm oy oy
 have kz:=Fm oz oz
 have a1:=Cl.ps bx by' (by unfold PRM; omega) (by unfold PRM; omega)
 have a1':=Cl.es bx by' (by unfold PRM; omega) (by unfold PRM; omega)
 rw [kx,ky] at a1'
 change _=C5 (qadd (qmul x x) (qmul y y)) at a1'
 have b1:=Ln bx by' kx ky
 have a2:=Cl.ps b1 bz (by unfold PRM; omega) (by unfold PRM; omega)
 have a2':=Cl.es b1 bz (by unfold PRM; omega) (by unfold PRM; omega)
 rw [Iq kx ky,kz] at a2'
 change _=C5 (qsq x y z) at a2'
 simp only [Dd.o,Dd.K,Cy.ps hx hy hz hL,Cy.es hx hy hz hL,ox,oy,oz,Bool.and_self,Bool.not_true,cond_true,cond_false,mp hx,mp hy,mp hz,me hx ox,me hy oy,me hz oz,C5,a1,a1',a2,a2']
theorem Dd.ps {k:Nat} {x y z:Q} (hx:x.Bd k) (hy:y.Bd k) (hz:z.Bd k) (hk:6*k+20≤4000000) (ox:x.ok=true) (oy:y.ok=true) (oz:z.ok=true):Dd.pre (dI x.c0).1 (dI x.c0).2 (dI x.c1).1 (dI x.c1).2 (dI x.c2).1 (dI x.c2).2 (dI x.c3).1 (dI x.c3).2 (dI x.d).1 (dI x.d).2 (dI y.c0).1 (dI y.c0).2 (dI y.c1).1 (dI y.c1).2 (dI y.c2).1 (dI y.c2).2 (dI y.c3).1 (dI y.c3).2 (dI y.d).1 (dI y.d).2 (dI z.c0).1 (dI z.c0).2 (dI z.c1).1 (dI z.c1).2 (dI z.c2).1 (dI z.c2).2 (dI z.c3).1 (dI z.c3).2 (dI z.d).1 (dI z.d).2 (dI x.c0).1 (dI x.c0).2 (dI x.c1).1 (dI x.c1).2 (dI x.c2).1 (dI x.c2).2 (dI x.c3).1 (dI x.c3).2 (dI x.d).1 (dI x.d).2 (dI y.c0).1 (dI y.c0).2 (dI y.c1).1 (dI y.c1).2 (dI y.c2).1 (dI y.c2).2 (dI y.c3).1 (dI y.c3).2 (dI y.d).1 (dI y.d).2 (dI z.c0).1 (dI z.c0).2 (dI z.c1).1 (dI z.c1).2 (dI z.c2).1 (dI z.c2).2 (dI z.c3).1 (dI z.c3).2 (dI z.d).1 (dI z.d).2=true:=Ey (Dd.os hx hy hz hk ox oy oz)
theorem Dd.es {k:Nat} {x y z:Q} (hx:x.Bd k) (hy:y.Bd k) (hz:z.Bd k) (hk:6*k+20≤4000000) (ox:x.ok=true) (oy:y.ok=true) (oz:z.ok=true):Dd (dI x.c0).1 (dI x.c0).2 (dI x.c1).1 (dI x.c1).2 (dI x.c2).1 (dI x.c2).2 (dI x.c3).1 (dI x.c3).2 (dI x.d).1 (dI x.d).2 (dI y.c0).1 (dI y.c0).2 (dI y.c1).1 (dI y.c1).2 (dI y.c2).1 (dI y.c2).2 (dI y.c3).1 (dI y.c3).2 (dI y.d).1 (dI y.d).2 (dI z.c0).1 (dI z.c0).2 (dI z.c1).1 (dI z.c1).2 (dI z.c2).1 (dI z.c2).2 (dI z.c3).1 (dI z.c3).2 (dI z.d).1 (dI z.d).2 (dI x.c0).1 (dI x.c0).2 (dI x.c1).1 (dI x.c1).2 (dI x.c2).1 (dI x.c2).2 (dI x.c3).1 (dI x.c3).2 (dI x.d).1 (dI x.d).2 (dI y.c0).1 (dI y.c0).2 (dI y.c1).1 (dI y.c1).2 (dI y.c2).1 (dI y.c2).2 (dI y.c3).1 (dI y.c3).2 (dI y.d).1 (dI y.d).2 (dI z.c0).1 (dI z.c0).2 (dI z.c1).1 (dI z.c1).2 (dI z.c2).1 (dI z.c2).2 (dI z.c3).1 (dI z.c3).2 (dI z.d).1 (dI z.d).2=C5 (qsq x y z):=Fq (Dd.os hx hy hz hk ox oy oz)
theorem Dd.ok:SOK Tryz.prog 29 (Dd.sp Dd Dd.pre):=by
 refine Cq (E:=⟨[(69,Co.sp Co Co.pre),(66,Cy.sp Cy Cy.pre),(71,Cl.sp Cl Cl.pre)],[(70,Tryz.f70)],[]⟩) (L:=[]) ⟨(Aa Co.ok (Aa Cy.ok (Aa Cl.ok Ac))),(Ex ⟨Tryz.func70,by decide,rfl⟩ Ai),Ad,Ah⟩ 60 Tryz.func29 (by decide) rfl Bs fun vs bl v bl' h=> ?_
 unfold Dd.sp at h
 split at h
 ·rename_i A2 A3 A8 A7 A6 A9 AB AA AD AC BI BH BG BF BE BD BC BB BA B9 B8 B7 B6 B5 B4 B3 B2 AZ AY AX A5 A4 AF AE AH AG AO AN AK AJ DO DN DM DL DK DJ DI DH DG DF DE DD DC DB DA D9 D8 D7 D6 D5
  simp only [Option.some.injEq,Prod.mk.injEq] at h
  obtain ⟨hp,rfl,rfl⟩:=h
  have hr:=Dd.run Co Co.pre Cy Cy.pre Cl Cl.pre A2 A3 A8 A7 A6 A9 AB AA AD AC BI BH BG BF BE BD BC BB BA B9 B8 B7 B6 B5 B4 B3 B2 AZ AY AX A5 A4 AF AE AH AG AO AN AK AJ DO DN DM DL DK DJ DI DH DG DF DE DD DC DB DA D9 D8 D7 D6 D5
  rw [Dd.nat] at hr
  obtain ⟨r,h2⟩:=Option.isSome_iff_exists.1 (hp:(Dd.o A2 A3 A8 A7 A6 A9 AB AA AD AC BI BH BG BF BE BD BC BB BA B9 B8 B7 B6 B5 B4 B3 B2 AZ AY AX A5 A4 AF AE AH AG AO AN AK AJ DO DN DM DL DK DJ DI DH DG DF DE DD DC DB DA D9 D8 D7 D6 D5).isSome=true)
  have h3:Dd A2 A3 A8 A7 A6 A9 AB AA AD AC BI BH BG BF BE BD BC BB BA B9 B8 B7 B6 B5 B4 B3 B2 AZ AY AX A5 A4 AF AE AH AG AO AN AK AJ DO DN DM DL DK DJ DI DH DG DF DE DD DC DB DA D9 D8 D7 D6 D5=r:=by unfold Dd; rw [h2]; rfl
  have h4:Dd.K Co Co.pre Cy Cy.pre Cl Cl.pre A2 A3 A8 A7 A6 A9 AB AA AD AC BI BH BG BF BE BD BC BB BA B9 B8 B7 B6 B5 B4 B3 B2 AZ AY AX A5 A4 AF AE AH AG AO AN AK AJ DO DN DM DL DK DJ DI DH DG DF DE DD DC DB DA D9 D8 D7 D6 D5 some=some r:=h2
  rw [h4,Option.bind_some] at hr
  rw [h3]
  exact ⟨hr,by simp [okV,Nat.blt],clo_spec 8 _ (by kernel_rfl),As (by kernel_rfl)⟩
 ·cases h
section
variable {R:Type} (C1:Int→Int→Int→Int→Int→Int→Int→(Int×Int×Int×Int×Int×Int×Int×Int)) (G8:TF20 (Bool)) (G6:TF20 Bool) (GB:TF30 (TY5)) (G9:TF30 Bool) (BP:Int→Int→Int→Int→(Int×Int×Int)) (EC:TF10 (Int×Int×Int)) (E9:TF10 Bool) (A2:Bool) (A3:ByteArray) (A8:Bool) (A7:ByteArray) (A6:Bool) (A9:ByteArray) (AB:Bool) (AA:ByteArray) (AD:Bool) (AC:ByteArray) (BI:Bool) (BH:ByteArray) (BG:Bool) (BF:ByteArray) (BE:Bool) (BD:ByteArray) (BC:Bool) (BB:ByteArray) (BA:Bool) (B9:ByteArray) (B8:Bool) (B7:ByteArray) (B6:Bool) (B5:ByteArray) (B4:Bool) (B3:ByteArray) (B2:Bool) (AZ:ByteArray) (AY:Bool) (AX:ByteArray) (CH:Bool) (CG:ByteArray) (CF:Bool) (CE:ByteArray) (CD:Bool) (CC:ByteArray) (CB:Bool) (CA:ByteArray) (C9:Bool) (C8:ByteArray)
noncomputable def Bi.K (k:Int×Int×Int×Int×Int×Int×Int→Option R):Option R:=
 let t0:=G6 A2 A3 A8 A7 A6 A9 AB AA AD AC BI BH BG BF BE BD BC BB BA B9 B8 B7 B6 B5 B4 B3 B2 AZ AY AX CH CG CF CE CD CC CB CA C9 C8
 bif t0 then
 let t1:=G8 A2 A3 A8 A7 A6 A9 AB AA AD AC BI BH BG BF BE BD BC BB BA B9 B8 B7 B6 B5 B4 B3 B2 AZ AY AX CH CG CF CE CD CC CB CA C9 C8
 bif !t1 then k (0,0,0,0,0,0,1) else
 let t2:=G9 A2 A3 A8 A7 A6 A9 AB AA AD AC BI BH BG BF BE BD BC BB BA B9 B8 B7 B6 B5 B4 B3 B2 AZ AY AX A2 A3 A8 A7 A6 A9 AB AA AD AC BI BH BG BF BE BD BC BB BA B9 B8 B7 B6 B5 B4 B3 B2 AZ AY AX
 bif t2 then
 let t3:=GB A2 A3 A8 A7 A6 A9 AB AA AD AC BI BH BG BF BE BD BC BB BA B9 B8 B7 B6 B5 B4 B3 B2 AZ AY AX A2 A3 A8 A7 A6 A9 AB AA AD AC BI BH BG BF BE BD BC BB BA B9 B8 B7 B6 B5 B4 B3 B2 AZ AY AX
 let t4:=E9 A2 A3 A8 A7 A6 A9 AB AA AD AC t3.1 t3.2.1 t3.2.2.1 t3.2.2.2.1 t3.2.2.2.2.1 t3.2.2.2.2.2.1 t3.2.2.2.2.2.2.1 t3.2.2.2.2.2.2.2.1 t3.2.2.2.2.2.2.2.2.1 t3.2.2.2.2.2.2.2.2.2
 bif t4 then
 let t5:=E9 BI BH BG BF BE BD BC BB BA B9 t3.1 t3.2.1 t3.2.2.1 t3.2.2.2.1 t3.2.2.2.2.1 t3.2.2.2.2.2.1 t3.2.2.2.2.2.2.1 t3.2.2.2.2.2.2.2.1 t3.2.2.2.2.2.2.2.2.1 t3.2.2.2.2.2.2.2.2.2
 bif t5 then
 let t6:=E9 B8 B7 B6 B5 B4 B3 B2 AZ AY AX t3.1 t3.2.1 t3.2.2.1 t3.2.2.2.1 t3.2.2.2.2.1 t3.2.2.2.2.2.1 t3.2.2.2.2.2.2.1 t3.2.2.2.2.2.2.2.1 t3.2.2.2.2.2.2.2.2.1 t3.2.2.2.2.2.2.2.2.2
 bif t6 then
 let t7:=EC A2 A3 A8 A7 A6 A9 AB AA AD AC t3.1 t3.2.1 t3.2.2.1 t3.2.2.2.1 t3.2.2.2.2.1 t3.2.2.2.2.2.1 t3.2.2.2.2.2.2.1 t3.2.2.2.2.2.2.2.1 t3.2.2.2.2.2.2.2.2.1 t3.2.2.2.2.2.2.2.2.2
 let t8:=BP 0 t7.1 t7.2.1 t7.2.2
 let t9:=EC BI BH BG BF BE BD BC BB BA B9 t3.1 t3.2.1 t3.2.2.1 t3.2.2.2.1 t3.2.2.2.2.1 t3.2.2.2.2.2.1 t3.2.2.2.2.2.2.1 t3.2.2.2.2.2.2.2.1 t3.2.2.2.2.2.2.2.2.1 t3.2.2.2.2.2.2.2.2.2
 let t10:=BP t8.2.2 t9.1 t9.2.1 t9.2.2
 let t11:=EC B8 B7 B6 B5 B4 B3 B2 AZ AY AX t3.1 t3.2.1 t3.2.2.1 t3.2.2.2.1 t3.2.2.2.2.1 t3.2.2.2.2.2.1 t3.2.2.2.2.2.2.1 t3.2.2.2.2.2.2.2.1 t3.2.2.2.2.2.2.2.2.1 t3.2.2.2.2.2.2.2.2.2
 let t12:=BP t10.2.2 t11.1 t11.2.1 t11.2.2
 let t13:=C1 t12.2.2 t8.1 t8.2.1 t10.1 t10.2.1 t12.1 t12.2.1
 k (t13.1,t13.2.1,t13.2.2.1,t13.2.2.2.1,t13.2.2.2.2.1,t13.2.2.2.2.2.1,t13.2.2.2.2.2.2.1) else none else none else none else none else none
theorem Bi.run:xfn Tryz.prog ⟨[(27,Av.sp C1),(28,Ct.sp G8 G6),(29,Dd.sp GB G9),(30,Al.sp BP),(31,Ay.sp EC E9)],[],[]⟩ [] 60 Tryz.f8 [.agg ⟨.bool A2:: .string A3:: .bool A8:: .string A7:: .bool A6:: .string A9:: .bool AB:: .string AA:: .bool AD:: .string AC:: .bool BI:: .string BH:: .bool BG:: .string BF:: .bool BE:: .string BD:: .bool BC:: .string BB:: .bool BA:: .string B9:: .bool B8:: .string B7:: .bool B6:: .string B5:: .bool B4:: .string B3:: .bool B2:: .string AZ:: .bool AY:: .string AX:: .bool CH:: .string CG:: .bool CF:: .string CE:: .bool CD:: .string CC:: .bool CB:: .string CA:: .bool C9:: .string C8::[]⟩] []=Bi.K C1 G8 G6 GB G9 BP EC E9 A2 A3 A8 A7 A6 A9 AB AA AD AC BI BH BG BF BE BD BC BB BA B9 B8 B7 B6 B5 B4 B3 B2 AZ AY AX CH CG CF CE CD CC CB CA C9 C8 (fun r=>some (.tuple ⟨[.agg ⟨[.int .i64 r.1,.int .i64 r.2.1,.int .i64 r.2.2.1,.int .i64 r.2.2.2.1,.int .i64 r.2.2.2.2.1,.int .i64 r.2.2.2.2.2.1]⟩,.int .i64 r.2.2.2.2.2.2]⟩,[])):=by kernel_rfl
noncomputable def Bi.o:Option (Int×Int×Int×Int×Int×Int×Int):=Bi.K Av Ct Ct.pre Dd Dd.pre Al Ay Ay.pre A2 A3 A8 A7 A6 A9 AB AA AD AC BI BH BG BF BE BD BC BB BA B9 B8 B7 B6 B5 B4 B3 B2 AZ AY AX CH CG CF CE CD CC CB CA C9 C8 some
noncomputable def Bi.pre:Bool:=(Bi.o A2 A3 A8 A7 A6 A9 AB AA AD AC BI BH BG BF BE BD BC BB BA B9 B8 B7 B6 B5 B4 B3 B2 AZ AY AX CH CG CF CE CD CC CB CA C9 C8).isSome
noncomputable def Bi:Int×Int×Int×Int×Int×Int×Int:=(Bi.o A2 A3 A8 A7 A6 A9 AB AA AD AC BI BH BG BF BE BD BC BB BA B9 B8 B7 B6 B5 B4 B3 B2 AZ AY AX CH CG CF CE CD CC CB CA C9 C8).getD default
theorem Bi.nat (k:Int×Int×Int×Int×Int×Int×Int→Option R):Bi.K C1 G8 G6 GB G9 BP EC E9 A2 A3 A8 A7 A6 A9 AB AA AD AC BI BH BG BF BE BD BC BB BA B9 B8 B7 B6 B5 B4 B3 B2 AZ AY AX CH CG CF CE CD CC CB CA C9 C8 k=(Bi.K C1 G8 G6 GB G9 BP EC E9 A2 A3 A8 A7 A6 A9 AB AA AD AC BI BH BG BF BE BD BC BB BA B9 B8 B7 B6 B5 B4 B3 B2 AZ AY AX CH CG CF CE CD CC CB CA C9 C8 some).bind k:=by
 simp only [Bi.K,bcond,Option.bind_some,Option.bind_none]
end
theorem QJ {x y z:Q} (ox:x.ok=true) (oy:y.ok=true) (oz:z.ok=true):Rep (qsq x y z) (sgm (wv x*wv x) (wv y*wv y) (wv z*wv z) (zi x.d*zi x.d) (zi y.d*zi y.d) (zi z.d*zi z.d)) ((zi x.d*zi x.d)*(zi y.d*zi y.d)*(zi z.d*zi z.d)):=
 (((Rep.self ox).mul (Rep.self ox) ox ox).add ((Rep.self oy).mul (Rep.self oy) oy oy) (Fm ox ox) (Fm oy oy)).add ((Rep.self oz).mul (Rep.self oz) oz oz) (Iq (Fm ox ox) (Fm oy oy)) (Fm oz oz)
theorem RT {x:Q} (h:x.nul=false):Sg.s (wv x)≠0:=fun h0=>by
 have:=sgZ _ h0
 have e0:x.c0=0:=congrArg (fun w:Z6=>w.p.a) this
 have e1:x.c1=0:=congrArg (fun w:Z6=>w.p.b) this
 have e2:x.c2=0:=congrArg (fun w:Z6=>w.q.a) this
 have e3:x.c3=0:=congrArg (fun w:Z6=>w.q.b) this
 simp [Q.nul,e0,e1,e2,e3] at h
theorem Q9 {x y z:Q} (ox:x.ok=true) (oy:y.ok=true) (oz:z.ok=true) (h:(x.nul&&(y.nul&&z.nul))=false):Sg.s (sgm (wv x*wv x) (wv y*wv y) (wv z*wv z) (zi x.d*zi x.d) (zi y.d*zi y.d) (zi z.d*zi z.d))=1:=by
 have dx:=Gs ox
 have dy:=Gs oy
 have dz:=Gs oz
 have m:∀ {a b:Z6},Sg.s a=1→Sg.s b=1→Sg.s (a*b)=1:=fun ha hb=>by rw [sgM,ha,hb]; rfl
 have n:∀ {a b:Z6},Sg.s b=1→Sg.s (a*b)=Sg.s a:=fun hb=>by rw [sgM,hb,Int.mul_one]
 have ex:=m (m dx dx) (m dy dy)
 have ey:=m (m dy dy) (m dz dz)
 have ez:=m (m dx dx) (m dz dz)
 rw [NW]
 have qx:=Fv (wv x)
 have qy:=Fv (wv y)
 have qz:=Fv (wv z)
 have h1:0≤Sg.s (wv x*wv x*(zi y.d*zi y.d*(zi z.d*zi z.d))+wv y*wv y*(zi x.d*zi x.d*(zi z.d*zi z.d))):=GM (by rw [n ey]; exact qx) (by rw [n ez]; exact qy)
 cases hx:x.nul with
 |false=>exact HX h1 (by rw [n ex]; exact qz) (.inl (HX (by rw [n ey]; exact qx) (by rw [n ez]; exact qy) (.inl (by rw [n ey]; exact s_sq (RT hx)))))
 | true=>
  cases hy:y.nul with
  |false=>exact HX h1 (by rw [n ex]; exact qz) (.inl (HX (by rw [n ey]; exact qx) (by rw [n ez]; exact qy) (.inr (by rw [n ez]; exact s_sq (RT hy)))))
  | true=>
   rw [hx,hy,Bool.true_and,Bool.true_and] at h
   exact HX h1 (by rw [n ex]; exact qz) (.inr (by rw [n ex]; exact s_sq (RT h)))
def sgb (s:Bool) (n h:Int):I2:=(bif s then -h else n,bif s then -n else h)
theorem PR {x y z:Q} (ox:x.ok=true) (oy:y.ok=true) (oz:z.ok=true) (hn:(x.nul&&(y.nul&&z.nul))=false):
  ∃ n0 h0 n1 h1 n2 h2:Int,(0≤n0∧n0≤h0∧h0≤16777216)∧(0≤n1∧n1≤h1∧h1≤16777216)∧(0≤n2∧n2≤h2∧h2≤16777216)∧n0*n0+n1*n1+n2*n2≤KK∧KK≤h0*h0+h1*h1+h2*h2∧
   dquot x (qsq x y z)=((sgb (decide (x.sg<0)) n0 h0).1,(sgb (decide (x.sg<0)) n0 h0).2,0)∧dquot y (qsq x y z)=((sgb (decide (y.sg<0)) n1 h1).1,(sgb (decide (y.sg<0)) n1 h1).2,0)∧dquot z (qsq x y z)=((sgb (decide (z.sg<0)) n2 h2).1,(sgb (decide (z.sg<0)) n2 h2).2,0):=by
 have rs:=QJ ox oy oz
 have os:=Rz ox oy oz
 have hσ:=Q9 ox oy oz hn
 have m:∀ {a b:Z6},Sg.s a=1→Sg.s b=1→Sg.s (a*b)=1:=fun ha hb=>by rw [sgM,ha,hb]; rfl
 have dx:=m (Gs ox) (Gs ox)
 have dy:=m (Gs oy) (Gs oy)
 have dz:=m (Gs oz) (Gs oz)
 have hτ:=m (m dx dy) dz
 have e:=NW (wv x*wv x) (wv y*wv y) (wv z*wv z) (zi x.d*zi x.d) (zi y.d*zi y.d) (zi z.d*zi z.d)
 have nn:∀ {a b:Z6},Sg.s b=1→0≤Sg.s (a*a*b):=fun {a b} hb=>by rw [sgM,hb,Int.mul_one]; exact Fv a
 have bx:=He (P:=wv x*wv x) (R:=zi x.d*zi x.d) (E:=zi y.d*zi y.d*(zi z.d*zi z.d)) (σ:=sgm (wv x*wv x) (wv y*wv y) (wv z*wv z) (zi x.d*zi x.d) (zi y.d*zi y.d) (zi z.d*zi z.d)) (τ:=zi x.d*zi x.d*(zi y.d*zi y.d)*(zi z.d*zi z.d)) (Q:=wv y*wv y*(zi x.d*zi x.d*(zi z.d*zi z.d))+wv z*wv z*(zi x.d*zi x.d*(zi y.d*zi y.d))) (by ac_rfl) (by rw [e]; ac_rfl) (m dy dz) hτ (GM (nn (m dx dz)) (nn (m dx dy)))
 have by':=He (P:=wv y*wv y) (R:=zi y.d*zi y.d) (E:=zi x.d*zi x.d*(zi z.d*zi z.d)) (σ:=sgm (wv x*wv x) (wv y*wv y) (wv z*wv z) (zi x.d*zi x.d) (zi y.d*zi y.d) (zi z.d*zi z.d)) (τ:=zi x.d*zi x.d*(zi y.d*zi y.d)*(zi z.d*zi z.d)) (Q:=wv x*wv x*(zi y.d*zi y.d*(zi z.d*zi z.d))+wv z*wv z*(zi x.d*zi x.d*(zi y.d*zi y.d))) (by ac_rfl) (by rw [e]; ac_rfl) (m dx dz) hτ (GM (nn (m dy dz)) (nn (m dx dy)))
 have bz:=He (P:=wv z*wv z) (R:=zi z.d*zi z.d) (E:=zi x.d*zi x.d*(zi y.d*zi y.d)) (σ:=sgm (wv x*wv x) (wv y*wv y) (wv z*wv z) (zi x.d*zi x.d) (zi y.d*zi y.d) (zi z.d*zi z.d)) (τ:=zi x.d*zi x.d*(zi y.d*zi y.d)*(zi z.d*zi z.d)) (Q:=wv x*wv x*(zi y.d*zi y.d*(zi z.d*zi z.d))+wv y*wv y*(zi x.d*zi x.d*(zi z.d*zi z.d))) (by ac_rfl) (by rw [e]; ac_rfl) (m dx dy) hτ (GM (nn (m dy dz)) (nn (m dx dz)))
 obtain ⟨n0,h0,a0,b0,c0,l0,u0,q0⟩:=Hi (Rep.self ox) rs ox os hσ hτ bx
 obtain ⟨n1,h1,a1,b1,c1,l1,u1,q1⟩:=Hi (Rep.self oy) rs oy os hσ hτ by'
 obtain ⟨n2,h2,a2,b2,c2,l2,u2,q2⟩:=Hi (Rep.self oz) rs oz os hσ hτ bz
 exact ⟨n0,h0,n1,h1,n2,h2,⟨a0,b0,c0⟩,⟨a1,b1,c1⟩,⟨a2,b2,c2⟩,sum_le dx dy dz hσ l0 l1 l2,sum_ge dx dy dz hσ u0 u1 u2,q0,q1,q2⟩
theorem Bi.os {k:Nat} {x y z q:Q} (hx:x.Bd k) (hy:y.Bd k) (hz:z.Bd k) (hq:q.Bd k) (hk:k≤1000) (ox:x.ok=true) (oy:y.ok=true) (oz:z.ok=true) (oq:q.ok=true):
  Bi.o (dI x.c0).1 (dI x.c0).2 (dI x.c1).1 (dI x.c1).2 (dI x.c2).1 (dI x.c2).2 (dI x.c3).1 (dI x.c3).2 (dI x.d).1 (dI x.d).2 (dI y.c0).1 (dI y.c0).2 (dI y.c1).1 (dI y.c1).2 (dI y.c2).1 (dI y.c2).2 (dI y.c3).1 (dI y.c3).2 (dI y.d).1 (dI y.d).2 (dI z.c0).1 (dI z.c0).2 (dI z.c1).1 (dI z.c1).2 (dI z.c2).1 (dI z.c2).2 (dI z.c3).1 (dI z.c3).2 (dI z.d).1 (dI z.d).2 (dI q.c0).1 (dI q.c0).2 (dI q.c1).1 (dI q.c1).2 (dI q.c2).1 (dI q.c2).2 (dI q.c3).1 (dI q.c3).2 (dI q.d).1 (dI q.d).2=some (bif x.nul&&(y.nul&&z.nul) then (0,0,0,0,0,0,1) else ((dquot x (qsq x y z)).1,(dquot x (qsq x y z)).2.1,(dquot y (qsq x y z)).1,(dquot y (qsq x y z)).2.1,(dquot z (qsq x y z)).1,(dquot z (qsq x y z)).2.1,0)):=by
 have hL:k≤LIM:=by unfold LIM; omega
 have sb:=qsq_bd hx hy hz ox oy oz
 have hb:∀ {w:Q},w.Bd k→4*k+14*(6*k+17)+200≤PRM:=fun _=>by unfold PRM; omega
 have qp:=fun {w:Q} (hw:w.Bd k)=>Ay.ps hw sb (by omega) (hb hw)
 have qe:=fun {w:Q} (hw:w.Bd k)=>Ay.es hw sb (by omega) (hb hw)
 simp only [Bi.o,Bi.K,Ct.ps hx hy hz hq hL ox oy oz oq,Ct.es hx hy hz hq hL ox oy oz oq,cond_true]
 cases hn:(x.nul&&(y.nul&&z.nul)) with
 |true=>rfl
 | false=>
  obtain ⟨n0,h0,n1,h1,n2,h2,_,_,_,_,_,q0,q1,q2⟩:=PR ox oy oz hn
  simp only [Bool.not_false,Bool.not_true,cond_true,cond_false,Dd.ps hx hy hz (by omega) ox oy oz,Dd.es hx hy hz (by omega) ox oy oz,C5,qp hx,qp hy,qp hz,qe hx,qe hy,qe hz,Al.eq,q0,q1,q2,kp0,Av,Av.K,id_eq,bne_self_eq_false]
theorem Bi.ps {k:Nat} {x y z q:Q} (hx:x.Bd k) (hy:y.Bd k) (hz:z.Bd k) (hq:q.Bd k) (hk:k≤1000) (ox:x.ok=true) (oy:y.ok=true) (oz:z.ok=true) (oq:q.ok=true):Bi.pre (dI x.c0).1 (dI x.c0).2 (dI x.c1).1 (dI x.c1).2 (dI x.c2).1 (dI x.c2).2 (dI x.c3).1 (dI x.c3).2 (dI x.d).1 (dI x.d).2 (dI y.c0).1 (dI y.c0).2 (dI y.c1).1 (dI y.c1).2 (dI y.c2).1 (dI y.c2).2 (dI y.c3).1 (dI y.c3).2 (dI y.d).1 (dI y.d).2 (dI z.c0).1 (dI z.c0).2 (dI z.c1).1 (dI z.c1).2 (dI z.c2).1 (dI z.c2).2 (dI z.c3).1 (dI z.c3).2 (dI z.d).1 (dI z.d).2 (dI q.c0).1 (dI q.c0).2 (dI q.c1).1 (dI q.c1).2 (dI q.c2).1 (dI q.c2).2 (dI q.c3).1 (dI q.c3).2 (dI q.d).1 (dI q.d).2=true:=Ey (Bi.os hx hy hz hq hk ox oy oz oq)
theorem Bi.es {k:Nat} {x y z q:Q} (hx:x.Bd k) (hy:y.Bd k) (hz:z.Bd k) (hq:q.Bd k) (hk:k≤1000) (ox:x.ok=true) (oy:y.ok=true) (oz:z.ok=true) (oq:q.ok=true):
 Bi (dI x.c0).1 (dI x.c0).2 (dI x.c1).1 (dI x.c1).2 (dI x.c2).1 (dI x.c2).2 (dI x.c3).1 (dI x.c3).2 (dI x.d).1 (dI x.d).2 (dI y.c0).1 (dI y.c0).2 (dI y.c1).1 (dI y.c1).2 (dI y.c2).1 (dI y.c2).2 (dI y.c3).1 (dI y.c3).2 (dI y.d).1 (dI y.d).2 (dI z.c0).1 (dI z.c0).2 (dI z.c1).1 (dI z.c1).2 (dI z.c2).1 (dI z.c2).2 (dI z.c3).1 (dI z.c3).2 (dI z.d).1 (dI z.d).2 (dI q.c0).1 (dI q.c0).2 (dI q.c1).1 (dI q.c1).2 (dI q.c2).1 (dI q.c2).2 (dI q.c3).1 (dI q.c3).2 (dI q.d).1 (dI q.d).2=(bif x.nul&&(y.nul&&z.nul) then (0,0,0,0,0,0,1) else ((dquot x (qsq x y z)).1,(dquot x (qsq x y z)).2.1,(dquot y (qsq x y z)).1,(dquot y (qsq x y z)).2.1,(dquot z (qsq x y z)).1,(dquot z (qsq x y z)).2.1,0)):=Fq (Bi.os hx hy hz hq hk ox oy oz oq)
theorem Ou {T:Int→Bool} :∀(d:Nat) (a:Int),T a=true→∃N,a≤N∧N≤a+(d:Int)∧T N=true∧(N=a+(d:Int)∨T (N+1)=false)
 |0,a,h=>⟨a,Int.le_refl _,by omega,h,.inl (by omega)⟩
 | d +1,a,h=>by
  cases h1:T (a+1) with
  | true=>
   obtain ⟨N,h2,h3,h4,h5⟩:=Ou d (a+1) h1
   exact ⟨N,by omega,by omega,h4,h5.imp (fun h=>by omega) id⟩
  |false=>exact ⟨a,Int.le_refl _,by omega,h,.inr h1⟩
theorem z6_ldU (m a b:Z6):m*(a+b)=m*a+m*b:=by rw [Z6.mul_comm m (a+b),Z6.add_mul,Z6.mul_comm a m,Z6.mul_comm b m]
theorem z6_mnU (m a:Z6):m* -a= -(m*a):=by rw [Z6.mul_comm m (-a),Z6.neg_mul,Z6.mul_comm a m]
theorem cw_up {J:Int} (hJ:0<J) (k:Int) (A B:Z6):cw (J*k) A (zi J*B)=cw k A B:=by
 unfold cw
 have e:zi (J*k)*A+ -(zi J*B)=zi J*(zi k*A+ -B):=by rw [M1,z6_ldU,z6_mnU,Z6.mul_assoc]
 rw [e,sgM,s_zi,KL.2 hJ,Int.one_mul]
theorem Mf {A B:Z6} {j:Int} (hj:0<j) (hA:Sg.s A=1) {n h:Int} (h0:0≤n) (hn:n≤h) (hl:cw (n*n) A B≤0) (hu:0≤cw (h*h) A B):
  ∃N,n*j≤N∧N≤h*j∧cw (N*N) A (zi (j*j)*B)≤0∧0≤cw ((N+1)*(N+1)) A (zi (j*j)*B):=by
 have hJ:=Int.mul_pos hj hj
 have sq:∀k:Int,k*j*(k*j)=j*j*(k*k):=fun k=>by grind
 have l':cw (n*j*(n*j)) A (zi (j*j)*B)≤0:=by rw [sq,cw_up hJ]; exact hl
 have u':0≤cw (h*j*(h*j)) A (zi (j*j)*B):=by rw [sq,cw_up hJ]; exact hu
 have hle:n*j≤h*j:=Int.mul_le_mul_of_nonneg_right hn (by omega)
 have h00:0≤n*j:=Int.mul_nonneg h0 (by omega)
 obtain ⟨N,h1,h2,h3,h4⟩:=Ou (T:=fun m=>decide (cw (m*m) A (zi (j*j)*B)≤0)) (h*j-n*j).toNat (n*j) (decide_eq_true l')
 generalize n*j=nj at*
 refine ⟨N,h1,by omega,of_decide_eq_true h3,?_⟩
 rcases h4 with h4|h4
 ·have e:N=h*j:=by omega
  rw [←e] at u'
  have e2:(N+1)*(N+1)=N*N+2*N+1:=by grind
  have:=So hA (j:=N*N) (k:=(N+1)*(N+1)) (by omega) u'
  omega
 ·have:=of_decide_eq_false h4
  omega
section
variable {P0 P1 P2 R0 R1 R2:Z6} (r0:Sg.s R0=1) (r1:Sg.s R1=1) (r2:Sg.s R2=1) (hσ:Sg.s (sgm P0 P1 P2 R0 R1 R2)=1)
include r0 r1 r2 hσ
theorem Q2 (k a b c:Int):Sg.s ((zi a+zi b+zi c+ -zi k)*(sgm P0 P1 P2 R0 R1 R2*(R0*R1*R2)))=sgn (a+b+c-k):=by
 rw [sgM,sgM,sgM,sgM,hσ,r0,r1,r2,←RR,←Ju,←Ju,←Ju,s_zi]
 simp only [Int.mul_one]
 rfl
theorem sumK_le {k a b c:Int} (h0:cw a (R0*sgm P0 P1 P2 R0 R1 R2) (P0*(R0*R1*R2)*zi k)≤0) (h1:cw b (R1*sgm P0 P1 P2 R0 R1 R2) (P1*(R0*R1*R2)*zi k)≤0) (h2:cw c (R2*sgm P0 P1 P2 R0 R1 R2) (P2*(R0*R1*R2)*zi k)≤0):a+b+c≤k:=by
 have h:=Q2 r0 r1 r2 hσ k a b c
 rw [←NR] at h
 have g:∀ {x E:Z6},Sg.s x≤0→Sg.s E=1→Sg.s (x*E)≤0:=fun hx hE=>by rw [sgM,hE]; omega
 have m:∀ {x y:Z6},Sg.s x=1→Sg.s y=1→Sg.s (x*y)=1:=fun hx hy=>by rw [sgM,hx,hy]; rfl
 have:=HW (HW (g h0 (m r1 r2)) (g h1 (m r0 r2))) (g h2 (m r0 r1))
 rw [h] at this
 rcases Int.lt_or_le k (a+b+c) with h3|h3
 ·have:=(KL (n:=a+b+c-k)).2 (by omega); omega
 ·exact h3
theorem sumK_ge {k a b c:Int} (h0:0≤cw a (R0*sgm P0 P1 P2 R0 R1 R2) (P0*(R0*R1*R2)*zi k)) (h1:0≤cw b (R1*sgm P0 P1 P2 R0 R1 R2) (P1*(R0*R1*R2)*zi k)) (h2:0≤cw c (R2*sgm P0 P1 P2 R0 R1 R2) (P2*(R0*R1*R2)*zi k)):k≤a+b+c:=by
 have h:=Q2 r0 r1 r2 hσ k a b c
 rw [←NR] at h
 have g:∀ {x E:Z6},0≤Sg.s x→Sg.s E=1→0≤Sg.s (x*E):=fun hx hE=>by rw [sgM,hE]; omega
 have m:∀ {x y:Z6},Sg.s x=1→Sg.s y=1→Sg.s (x*y)=1:=fun hx hy=>by rw [sgM,hx,hy]; rfl
 have:=GM (GM (g h0 (m r1 r2)) (g h1 (m r0 r2))) (g h2 (m r0 r1))
 rw [h] at this
 rcases Int.lt_or_le (a+b+c) k with h3|h3
 ·have:=(OH (n:=a+b+c-k)).2 (by omega); omega
 ·exact h3
end
def UNj (j:Int) (m:Bx):Prop:=∃P0 P1 P2:Int,Pt P0 j m.1∧Pt P1 j m.2.1∧Pt P2 j m.2.2∧P0*P0+P1*P1+P2*P2≤16777216*j*(16777216*j)∧16777216*j*(16777216*j)≤P0*P0+P1*P1+P2*P2+9*(16777216*j)
theorem JK (j:Int) (P τ:Z6):zi (j*j)*(P*τ*zi KK)=P*τ*zi (16777216*j*(16777216*j)):=by
 rw [show 16777216*j*(16777216*j)=j*j*KK by unfold KK; grind,M1 (j*j) KK]; ac_rfl
theorem PF {n h N j:Int} (s:Bool) (l:n*j≤N) (u:N≤h*j):Pt (bif s then -N else N) j (sgb s n h):=by
 cases s with
 |false=>exact ⟨l,u⟩
 |true=>exact ⟨by show -h*j≤ -N; rw [Int.neg_mul]; omega,by show -N≤ -n*j; rw [Int.neg_mul]; omega⟩
theorem MB {p s M:Int} (hM:0≤M) (h:p*p≤s) (hs:s≤M*M): -M≤p∧p≤M:=by
 have e:(M+1)*(M+1)=M*M+2*M+1:=by grind
 constructor
 ·rcases Int.lt_or_le p (-M) with h1|h1
  ·have:=Li (x:=M+1) (y:= -p) (by omega) (by omega)
   rw [Int.neg_mul_neg] at this; omega
  ·exact h1
 ·rcases Int.lt_or_le M p with h1|h1
  ·have:=Li (x:=M+1) (y:=p) (by omega) (by omega)
   omega
  ·exact h1
theorem PQ {j:Int} (hj:0<j) {x y z:Q} (ox:x.ok=true) (oy:y.ok=true) (oz:z.ok=true) (hn:(x.nul&&(y.nul&&z.nul))=false):
  UNj j (((dquot x (qsq x y z)).1,(dquot x (qsq x y z)).2.1),((dquot y (qsq x y z)).1,(dquot y (qsq x y z)).2.1),((dquot z (qsq x y z)).1,(dquot z (qsq x y z)).2.1)):=by
 have rs:=QJ ox oy oz
 have os:=Rz ox oy oz
 have hσ:=Q9 ox oy oz hn
 have m:∀ {a b:Z6},Sg.s a=1→Sg.s b=1→Sg.s (a*b)=1:=fun ha hb=>by rw [sgM,ha,hb]; rfl
 have dx:=m (Gs ox) (Gs ox)
 have dy:=m (Gs oy) (Gs oy)
 have dz:=m (Gs oz) (Gs oz)
 have hτ:=m (m dx dy) dz
 have e:=NW (wv x*wv x) (wv y*wv y) (wv z*wv z) (zi x.d*zi x.d) (zi y.d*zi y.d) (zi z.d*zi z.d)
 have nn:∀ {a b:Z6},Sg.s b=1→0≤Sg.s (a*a*b):=fun {a b} hb=>by rw [sgM,hb,Int.mul_one]; exact Fv a
 have bx:=He (P:=wv x*wv x) (R:=zi x.d*zi x.d) (E:=zi y.d*zi y.d*(zi z.d*zi z.d)) (σ:=sgm (wv x*wv x) (wv y*wv y) (wv z*wv z) (zi x.d*zi x.d) (zi y.d*zi y.d) (zi z.d*zi z.d)) (τ:=zi x.d*zi x.d*(zi y.d*zi y.d)*(zi z.d*zi z.d)) (Q:=wv y*wv y*(zi x.d*zi x.d*(zi z.d*zi z.d))+wv z*wv z*(zi x.d*zi x.d*(zi y.d*zi y.d))) (by ac_rfl) (by rw [e]; ac_rfl) (m dy dz) hτ (GM (nn (m dx dz)) (nn (m dx dy)))
 have by':=He (P:=wv y*wv y) (R:=zi y.d*zi y.d) (E:=zi x.d*zi x.d*(zi z.d*zi z.d)) (σ:=sgm (wv x*wv x) (wv y*wv y) (wv z*wv z) (zi x.d*zi x.d) (zi y.d*zi y.d) (zi z.d*zi z.d)) (τ:=zi x.d*zi x.d*(zi y.d*zi y.d)*(zi z.d*zi z.d)) (Q:=wv x*wv x*(zi y.d*zi y.d*(zi z.d*zi z.d))+wv z*wv z*(zi x.d*zi x.d*(zi y.d*zi y.d))) (by ac_rfl) (by rw [e]; ac_rfl) (m dx dz) hτ (GM (nn (m dy dz)) (nn (m dx dy)))
 have bz:=He (P:=wv z*wv z) (R:=zi z.d*zi z.d) (E:=zi x.d*zi x.d*(zi y.d*zi y.d)) (σ:=sgm (wv x*wv x) (wv y*wv y) (wv z*wv z) (zi x.d*zi x.d) (zi y.d*zi y.d) (zi z.d*zi z.d)) (τ:=zi x.d*zi x.d*(zi y.d*zi y.d)*(zi z.d*zi z.d)) (Q:=wv x*wv x*(zi y.d*zi y.d*(zi z.d*zi z.d))+wv y*wv y*(zi x.d*zi x.d*(zi z.d*zi z.d))) (by ac_rfl) (by rw [e]; ac_rfl) (m dx dy) hτ (GM (nn (m dy dz)) (nn (m dx dz)))
 obtain ⟨n0,h0,a0,b0,c0,l0,u0,q0⟩:=Hi (Rep.self ox) rs ox os hσ hτ bx
 obtain ⟨n1,h1,a1,b1,c1,l1,u1,q1⟩:=Hi (Rep.self oy) rs oy os hσ hτ by'
 obtain ⟨n2,h2,a2,b2,c2,l2,u2,q2⟩:=Hi (Rep.self oz) rs oz os hσ hτ bz
 obtain ⟨N0,f0,g0,i0,j0⟩:=Mf hj (m dx hσ) a0 b0 l0 u0
 obtain ⟨N1,f1,g1,i1,j1⟩:=Mf hj (m dy hσ) a1 b1 l1 u1
 obtain ⟨N2,f2,g2,i2,j2⟩:=Mf hj (m dz hσ) a2 b2 l2 u2
 rw [JK] at i0 j0 i1 j1 i2 j2
 have sl:=sumK_le dx dy dz hσ i0 i1 i2
 have su:=sumK_ge dx dy dz hσ j0 j1 j2
 have s0:=I0 N0
 have s1:=I0 N1
 have s2:=I0 N2
 obtain ⟨M,eM⟩:∃M,M=16777216*j:=⟨_,rfl⟩
 rw [←eM] at sl su
 have hM:0≤M:=by omega
 have r0:=MB hM (p:=N0) (s:=N0*N0+N1*N1+N2*N2) (by omega) sl
 have r1:=MB hM (p:=N1) (s:=N0*N0+N1*N1+N2*N2) (by omega) sl
 have r2:=MB hM (p:=N2) (s:=N0*N0+N1*N1+N2*N2) (by omega) sl
 have ex:∀k:Int,(k+1)*(k+1)=k*k+2*k+1:=fun k=>by grind
 rw [ex,ex,ex] at su
 have sg:∀(s:Bool) (k:Int),(bif s then -k else k)*(bif s then -k else k)=k*k:=fun s k=>by cases s; rfl; exact Int.neg_mul_neg k k
 refine ⟨bif decide (x.sg<0) then -N0 else N0,bif decide (y.sg<0) then -N1 else N1,bif decide (z.sg<0) then -N2 else N2,?_,?_,?_,?_,?_⟩
 ·rw [q0]; exact PF _ f0 g0
 ·rw [q1]; exact PF _ f1 g1
 ·rw [q2]; exact PF _ f2 g2
 ·rw [sg,sg,sg,←eM]; exact sl
 ·rw [sg,sg,sg,←eM]; omega
theorem R7 {x y z:Q} (ox:x.ok=true) (oy:y.ok=true) (oz:z.ok=true) (hn:(x.nul&&(y.nul&&z.nul))=false):
 UN (((dquot x (qsq x y z)).1,(dquot x (qsq x y z)).2.1),((dquot y (qsq x y z)).1,(dquot y (qsq x y z)).2.1),((dquot z (qsq x y z)).1,(dquot z (qsq x y z)).2.1)):=PQ (j:=16384) (by decide) ox oy oz hn
theorem Bi.ok:SOK Tryz.prog 8 (Bi.sp Bi Bi.pre):=by
 refine Cq (E:=⟨[(27,Av.sp Av),(28,Ct.sp Ct Ct.pre),(29,Dd.sp Dd Dd.pre),(30,Al.sp Al),(31,Ay.sp Ay Ay.pre)],[],[]⟩) (L:=[]) ⟨(Aa Av.ok (Aa Ct.ok (Aa Dd.ok (Aa Al.ok (Aa Ay.ok Ac))))),Ai,Ad,Ah⟩ 60 Tryz.func8 (by decide) rfl Bs fun vs bl v bl' h=> ?_
 unfold Bi.sp at h
 split at h
 ·rename_i A2 A3 A8 A7 A6 A9 AB AA AD AC BI BH BG BF BE BD BC BB BA B9 B8 B7 B6 B5 B4 B3 B2 AZ AY AX CH CG CF CE CD CC CB CA C9 C8
  simp only [Option.some.injEq,Prod.mk.injEq] at h
  obtain ⟨hp,rfl,rfl⟩:=h
  have hr:=Bi.run Av Ct Ct.pre Dd Dd.pre Al Ay Ay.pre A2 A3 A8 A7 A6 A9 AB AA AD AC BI BH BG BF BE BD BC BB BA B9 B8 B7 B6 B5 B4 B3 B2 AZ AY AX CH CG CF CE CD CC CB CA C9 C8
  rw [Bi.nat] at hr
  obtain ⟨r,h2⟩:=Option.isSome_iff_exists.1 (hp:(Bi.o A2 A3 A8 A7 A6 A9 AB AA AD AC BI BH BG BF BE BD BC BB BA B9 B8 B7 B6 B5 B4 B3 B2 AZ AY AX CH CG CF CE CD CC CB CA C9 C8).isSome=true)
  have h3:Bi A2 A3 A8 A7 A6 A9 AB AA AD AC BI BH BG BF BE BD BC BB BA B9 B8 B7 B6 B5 B4 B3 B2 AZ AY AX CH CG CF CE CD CC CB CA C9 C8=r:=by unfold Bi; rw [h2]; rfl
  have h4:Bi.K Av Ct Ct.pre Dd Dd.pre Al Ay Ay.pre A2 A3 A8 A7 A6 A9 AB AA AD AC BI BH BG BF BE BD BC BB BA B9 B8 B7 B6 B5 B4 B3 B2 AZ AY AX CH CG CF CE CD CC CB CA C9 C8 some=some r:=h2
  rw [h4,Option.bind_some] at hr
  rw [h3]
  exact ⟨hr,by simp [okV,Nat.blt],clo_spec 8 _ (by kernel_rfl),As (by kernel_rfl)⟩
 ·cases h
section
variable {R:Type} (AR:Int→Int→Int→Int→(Int×Int×Int)) (BO:Int→Int→Int→Int→Int→(Int×Int×Int)) (BM:Int→Int→Int→Int→Int→(Int×Int×Int)) (BN:Int→Int→Int→Int→Int→(Int×Int×Int)) (BQ:Int→Int→Int→Int→Int→(Int×Int×Int)) (s0_0:Int) (A5:Int) (A4:Int) (AM:Int) (AL:Int)
def Cp.K {R:Type} (AR:Int→Int→Int→Int→(Int×Int×Int)) (BO:Int→Int→Int→Int→Int→(Int×Int×Int)) (BM:Int→Int→Int→Int→Int→(Int×Int×Int)) (BN:Int→Int→Int→Int→Int→(Int×Int×Int)) (BQ:Int→Int→Int→Int→Int→(Int×Int×Int)) (s0_0:Int) (A5:Int) (A4:Int) (AM:Int) (AL:Int) (k:Int×Int×Int→R):R:=
 let t0:=BM s0_0 A5 A4 AM AL
 k (t0.1,t0.2.1,t0.2.2)
theorem Cp.run:xfn Tryz.prog ⟨[(46,Ak.sp AR),(65,Ew.sp BO BM BN BQ)],[],[]⟩ [] 60 Tryz.f26 [.pointer (some ⟨0,0,none⟩),.agg ⟨[.int .i64 A5,.int .i64 A4]⟩,.agg ⟨[.int .i64 AM,.int .i64 AL]⟩] [.cs [.int .i64 s0_0] 61]=Cp.K AR BO BM BN BQ s0_0 A5 A4 AM AL (fun r=>some (.agg ⟨[.int .i64 r.1,.int .i64 r.2.1]⟩,[.cs [.int .i64 r.2.2] 61])):=by kernel_rfl
def Cp:Int×Int×Int:=Cp.K Ak Ao Am An Bh s0_0 A5 A4 AM AL id
theorem Cp.nat (k:Int×Int×Int→R):Cp.K AR BO BM BN BQ s0_0 A5 A4 AM AL k=k (Cp.K AR BO BM BN BQ s0_0 A5 A4 AM AL id):=by
 simp only [Cp.K,acond k,id_eq]
theorem Cp.eq (s a b c d:Int):Cp s a b c d=st s a b (isub a b c d):=by
 simp only [Cp,Cp.K,id_eq,Am.eq]
end
theorem Cp.ok:SOK Tryz.prog 26 (Cp.sp Cp):=by
 refine Cq (E:=⟨[(46,Ak.sp Ak),(65,Ew.sp Ao Am An Bh)],[],[]⟩) (L:=[]) ⟨(Aa Ak.ok (Aa Ew.ok Ac)),Ai,Ad,Ah⟩ 60 Tryz.func26 (by decide) rfl Bs fun vs bl v bl' h=> ?_
 unfold Cp.sp at h
 split at h
 ·rename_i A5 A4 AM AL s0_0
  simp only [Option.some.injEq,Prod.mk.injEq,true_and] at h
  obtain ⟨rfl,rfl⟩:=h
  refine ⟨?_,by simp [okV,Nat.blt],clo_spec 8 _ (by kernel_rfl),As (by kernel_rfl)⟩
  refine (Cp.run Ak Ao Am An Bh s0_0 A5 A4 AM AL).trans ?_
  refine (Cp.nat Ak Ao Am An Bh s0_0 A5 A4 AM AL _).trans ?_
  kernel_rfl
 ·cases h
end Go.Proofs.YtphlckkbihmlnaaGreatDoor.G
end
