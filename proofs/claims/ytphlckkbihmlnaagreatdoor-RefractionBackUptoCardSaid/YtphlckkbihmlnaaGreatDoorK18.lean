/- A part of what the law's proof leans on. PACKED BY pack.py of this repo. -/
import Derived.Test.YtphlckkbihmlnaaGreatDoorK17
set_option linter.unusedVariables false
set_option linter.unusedSimpArgs false
set_option linter.unusedSectionVars false
set_option linter.defProp false
set_option maxRecDepth 100000
open Go.IntKind (i64 u64 u32)
section
namespace Go.Proofs.YtphlckkbihmlnaaGreatDoor.G
open Go Go.Proofs Go.RowKit RX
section
variable {R:Type} (BX:Int→(TY5)) (BW:Int→Bool) (a0:Int) (a1:Int) (a2:Int)
noncomputable def Dz.K (k:TY15→Option R):Option R:=
 let t0:=BW a0
 bif t0 then
 let t1:=BW a1
 bif t1 then
 let t2:=BW a2
 bif t2 then
 let t3:=BX a0
 let t4:=BX a1
 let t5:=BX a2
 k (t3.1,t3.2.1,t3.2.2.1,t3.2.2.2.1,t3.2.2.2.2.1,t3.2.2.2.2.2.1,t3.2.2.2.2.2.2.1,t3.2.2.2.2.2.2.2.1,t3.2.2.2.2.2.2.2.2.1,t3.2.2.2.2.2.2.2.2.2,t4.1,t4.2.1,t4.2.2.1,t4.2.2.2.1,t4.2.2.2.2.1,t4.2.2.2.2.2.1,t4.2.2.2.2.2.2.1,t4.2.2.2.2.2.2.2.1,t4.2.2.2.2.2.2.2.2.1,t4.2.2.2.2.2.2.2.2.2,t5.1,t5.2.1,t5.2.2.1,t5.2.2.2.1,t5.2.2.2.2.1,t5.2.2.2.2.2.1,t5.2.2.2.2.2.2.1,t5.2.2.2.2.2.2.2.1,t5.2.2.2.2.2.2.2.2.1,t5.2.2.2.2.2.2.2.2.2) else none else none else none
theorem Dz.run:xfn Tryz.prog ⟨[(73,Ce.sp BX BW)],[],[]⟩ [] 60 Tryz.f95 [.int .i64 a0,.int .i64 a1,.int .i64 a2] []=Dz.K BX BW a0 a1 a2 (fun r=>some (.agg ⟨[.bool r.1,.string r.2.1,.bool r.2.2.1,.string r.2.2.2.1,.bool r.2.2.2.2.1,.string r.2.2.2.2.2.1,.bool r.2.2.2.2.2.2.1,.string r.2.2.2.2.2.2.2.1,.bool r.2.2.2.2.2.2.2.2.1,.string r.2.2.2.2.2.2.2.2.2.1,.bool r.2.2.2.2.2.2.2.2.2.2.1,.string r.2.2.2.2.2.2.2.2.2.2.2.1,.bool r.2.2.2.2.2.2.2.2.2.2.2.2.1,.string r.2.2.2.2.2.2.2.2.2.2.2.2.2.1,.bool r.2.2.2.2.2.2.2.2.2.2.2.2.2.2.1,.string r.2.2.2.2.2.2.2.2.2.2.2.2.2.2.2.1,.bool r.2.2.2.2.2.2.2.2.2.2.2.2.2.2.2.2.1,.string r.2.2.2.2.2.2.2.2.2.2.2.2.2.2.2.2.2.1,.bool r.2.2.2.2.2.2.2.2.2.2.2.2.2.2.2.2.2.2.1,.string r.2.2.2.2.2.2.2.2.2.2.2.2.2.2.2.2.2.2.2.1,.bool r.2.2.2.2.2.2.2.2.2.2.2.2.2.2.2.2.2.2.2.2.1,.string r.2.2.2.2.2.2.2.2.2.2.2.2.2.2.2.2.2.2.2.2.2.1,.bool r.2.2.2.2.2.2.2.2.2.2.2.2.2.2.2.2.2.2.2.2.2.2.1,.string r.2.2.2.2.2.2.2.2.2.2.2.2.2.2.2.2.2.2.2.2.2.2.2.1,.bool r.2.2.2.2.2.2.2.2.2.2.2.2.2.2.2.2.2.2.2.2.2.2.2.2.1,.string r.2.2.2.2.2.2.2.2.2.2.2.2.2.2.2.2.2.2.2.2.2.2.2.2.2.1,.bool r.2.2.2.2.2.2.2.2.2.2.2.2.2.2.2.2.2.2.2.2.2.2.2.2.2.2.1,.string r.2.2.2.2.2.2.2.2.2.2.2.2.2.2.2.2.2.2.2.2.2.2.2.2.2.2.2.1,.bool r.2.2.2.2.2.2.2.2.2.2.2.2.2.2.2.2.2.2.2.2.2.2.2.2.2.2.2.2.1,.string r.2.2.2.2.2.2.2.2.2.2.2.2.2.2.2.2.2.2.2.2.2.2.2.2.2.2.2.2.2]⟩,[])):=by kernel_rfl
noncomputable def Dz.o:Option (TY15):=Dz.K Ce Ce.pre a0 a1 a2 some
noncomputable def Dz.pre:Bool:=(Dz.o a0 a1 a2).isSome
noncomputable def Dz:TY15:=(Dz.o a0 a1 a2).getD default
theorem Dz.nat (k:TY15→Option R):Dz.K BX BW a0 a1 a2 k=(Dz.K BX BW a0 a1 a2 some).bind k:=by
 simp only [Dz.K,bcond,Option.bind_some,Option.bind_none]
end
theorem Dz.os:Dz.o 0 0 0=some ((dI (qof 0).c0).1,(dI (qof 0).c0).2,(dI (qof 0).c1).1,(dI (qof 0).c1).2,(dI (qof 0).c2).1,(dI (qof 0).c2).2,(dI (qof 0).c3).1,(dI (qof 0).c3).2,(dI (qof 0).d).1,(dI (qof 0).d).2,(dI (qof 0).c0).1,(dI (qof 0).c0).2,(dI (qof 0).c1).1,(dI (qof 0).c1).2,(dI (qof 0).c2).1,(dI (qof 0).c2).2,(dI (qof 0).c3).1,(dI (qof 0).c3).2,(dI (qof 0).d).1,(dI (qof 0).d).2,(dI (qof 0).c0).1,(dI (qof 0).c0).2,(dI (qof 0).c1).1,(dI (qof 0).c1).2,(dI (qof 0).c2).1,(dI (qof 0).c2).2,(dI (qof 0).c3).1,(dI (qof 0).c3).2,(dI (qof 0).d).1,(dI (qof 0).d).2):=by
 have p:=Ce.ps (n:=0) (by decide) (by decide)
 have e:=Ce.es (n:=0) (by decide) (by decide)
 simp only [Dz.o,Dz.K,p,e,cond_true]
 rfl
theorem Dz.ps:Dz.pre 0 0 0=true:=Fk Dz.os
theorem Dz.es:Dz 0 0 0=((dI (qof 0).c0).1,(dI (qof 0).c0).2,(dI (qof 0).c1).1,(dI (qof 0).c1).2,(dI (qof 0).c2).1,(dI (qof 0).c2).2,(dI (qof 0).c3).1,(dI (qof 0).c3).2,(dI (qof 0).d).1,(dI (qof 0).d).2,(dI (qof 0).c0).1,(dI (qof 0).c0).2,(dI (qof 0).c1).1,(dI (qof 0).c1).2,(dI (qof 0).c2).1,(dI (qof 0).c2).2,(dI (qof 0).c3).1,(dI (qof 0).c3).2,(dI (qof 0).d).1,(dI (qof 0).d).2,(dI (qof 0).c0).1,(dI (qof 0).c0).2,(dI (qof 0).c1).1,(dI (qof 0).c1).2,(dI (qof 0).c2).1,(dI (qof 0).c2).2,(dI (qof 0).c3).1,(dI (qof 0).c3).2,(dI (qof 0).d).1,(dI (qof 0).d).2):=GT Dz.os
theorem Dz.ok:SOK Tryz.prog 95 (Dz.sp Dz Dz.pre):=by
 refine Cu (E:=⟨[(73,Ce.sp Ce Ce.pre)],[],[]⟩) (L:=[]) ⟨(Aa Ce.ok Ac),Ai,Ad,Ah⟩ 60 Tryz.func95 (by decide) rfl Bv fun vs bl v bl' h=> ?_
 unfold Dz.sp at h
 split at h
 ·rename_i a0 a1 a2
  simp only [zS,zP] at h
  obtain ⟨hp,rfl,rfl⟩:=h
  have hr:=Dz.run Ce Ce.pre a0 a1 a2
  rw [Dz.nat] at hr
  obtain ⟨r,h2⟩:=Option.isSome_iff_exists.1 (hp:(Dz.o a0 a1 a2).isSome=true)
  have h3:Dz a0 a1 a2=r:=by unfold Dz; rw [h2]; rfl
  have h4:Dz.K Ce Ce.pre a0 a1 a2 some=some r:=h2
  rw [h4,Option.bind_some] at hr
  rw [h3]
  exact ⟨hr,by simp [okV,Nat.blt],clo_spec 8 _ (by kernel_rfl),Ay (by kernel_rfl)⟩
 ·cases h
section
variable {R:Type} (GN:Int→Int→Int→(TY15)) (GJ:Int→Int→Int→Bool) (A2:Bool) (A3:ByteArray) (A8:Bool) (A7:ByteArray) (A6:Bool) (A9:ByteArray) (AB:Bool) (AA:ByteArray) (AD:Bool) (AC:ByteArray) (BK:Bool) (BJ:ByteArray) (BI:Bool) (BH:ByteArray) (BG:Bool) (BF:ByteArray) (BE:Bool) (BD:ByteArray) (BC:Bool) (BB:ByteArray) (BA:Bool) (B9:ByteArray) (B8:Bool) (B7:ByteArray) (B6:Bool) (B5:ByteArray) (B4:Bool) (B3:ByteArray) (B2:Bool) (AZ:ByteArray)
noncomputable def Dd.K (k:(Bool)→Option R):Option R:=
 let t0:=GJ 0 0 0
 bif t0 then
 let t1:=GN 0 0 0
 k (A2==t1.1&&A3.toList==t1.2.1.toList&&(A8==t1.2.2.1&&A7.toList==t1.2.2.2.1.toList&&(A6==t1.2.2.2.2.1&&A9.toList==t1.2.2.2.2.2.1.toList&&(AB==t1.2.2.2.2.2.2.1&&AA.toList==t1.2.2.2.2.2.2.2.1.toList)))&&(AD==t1.2.2.2.2.2.2.2.2.1&&AC.toList==t1.2.2.2.2.2.2.2.2.2.1.toList)&&(BK==t1.2.2.2.2.2.2.2.2.2.2.1&&BJ.toList==t1.2.2.2.2.2.2.2.2.2.2.2.1.toList&&(BI==t1.2.2.2.2.2.2.2.2.2.2.2.2.1&&BH.toList==t1.2.2.2.2.2.2.2.2.2.2.2.2.2.1.toList&&(BG==t1.2.2.2.2.2.2.2.2.2.2.2.2.2.2.1&&BF.toList==t1.2.2.2.2.2.2.2.2.2.2.2.2.2.2.2.1.toList&&(BE==t1.2.2.2.2.2.2.2.2.2.2.2.2.2.2.2.2.1&&BD.toList==t1.2.2.2.2.2.2.2.2.2.2.2.2.2.2.2.2.2.1.toList)))&&(BC==t1.2.2.2.2.2.2.2.2.2.2.2.2.2.2.2.2.2.2.1&&BB.toList==t1.2.2.2.2.2.2.2.2.2.2.2.2.2.2.2.2.2.2.2.1.toList)&&(BA==t1.2.2.2.2.2.2.2.2.2.2.2.2.2.2.2.2.2.2.2.2.1&&B9.toList==t1.2.2.2.2.2.2.2.2.2.2.2.2.2.2.2.2.2.2.2.2.2.1.toList&&(B8==t1.2.2.2.2.2.2.2.2.2.2.2.2.2.2.2.2.2.2.2.2.2.2.1&&B7.toList==t1.2.2.2.2.2.2.2.2.2.2.2.2.2.2.2.2.2.2.2.2.2.2.2.1.toList&&(B6==t1.2.2.2.2.2.2.2.2.2.2.2.2.2.2.2.2.2.2.2.2.2.2.2.2.1&&B5.toList==t1.2.2.2.2.2.2.2.2.2.2.2.2.2.2.2.2.2.2.2.2.2.2.2.2.2.1.toList&&(B4==t1.2.2.2.2.2.2.2.2.2.2.2.2.2.2.2.2.2.2.2.2.2.2.2.2.2.2.1&&B3.toList==t1.2.2.2.2.2.2.2.2.2.2.2.2.2.2.2.2.2.2.2.2.2.2.2.2.2.2.2.1.toList)))&&(B2==t1.2.2.2.2.2.2.2.2.2.2.2.2.2.2.2.2.2.2.2.2.2.2.2.2.2.2.2.2.1&&AZ.toList==t1.2.2.2.2.2.2.2.2.2.2.2.2.2.2.2.2.2.2.2.2.2.2.2.2.2.2.2.2.2.toList)))) else none
theorem Dd.run:xfn Tryz.prog ⟨[(95,Dz.sp GN GJ)],[],[]⟩ [] 60 Tryz.f67 [.agg ⟨[.bool A2,.string A3,.bool A8,.string A7,.bool A6,.string A9,.bool AB,.string AA,.bool AD,.string AC,.bool BK,.string BJ,.bool BI,.string BH,.bool BG,.string BF,.bool BE,.string BD,.bool BC,.string BB,.bool BA,.string B9,.bool B8,.string B7,.bool B6,.string B5,.bool B4,.string B3,.bool B2,.string AZ]⟩] []=Dd.K GN GJ A2 A3 A8 A7 A6 A9 AB AA AD AC BK BJ BI BH BG BF BE BD BC BB BA B9 B8 B7 B6 B5 B4 B3 B2 AZ (fun r=>some (.bool r,[])):=by kernel_rfl
noncomputable def Dd.o:Option (Bool):=Dd.K Dz Dz.pre A2 A3 A8 A7 A6 A9 AB AA AD AC BK BJ BI BH BG BF BE BD BC BB BA B9 B8 B7 B6 B5 B4 B3 B2 AZ some
noncomputable def Dd.pre:Bool:=(Dd.o A2 A3 A8 A7 A6 A9 AB AA AD AC BK BJ BI BH BG BF BE BD BC BB BA B9 B8 B7 B6 B5 B4 B3 B2 AZ).isSome
noncomputable def Dd:Bool:=(Dd.o A2 A3 A8 A7 A6 A9 AB AA AD AC BK BJ BI BH BG BF BE BD BC BB BA B9 B8 B7 B6 B5 B4 B3 B2 AZ).getD default
theorem Dd.nat (k:(Bool)→Option R):Dd.K GN GJ A2 A3 A8 A7 A6 A9 AB AA AD AC BK BJ BI BH BG BF BE BD BC BB BA B9 B8 B7 B6 B5 B4 B3 B2 AZ k=(Dd.K GN GJ A2 A3 A8 A7 A6 A9 AB AA AD AC BK BJ BI BH BG BF BE BD BC BB BA B9 B8 B7 B6 B5 B4 B3 B2 AZ some).bind k:=by
 simp only [Dd.K,bcond,Option.bind_some,Option.bind_none]
theorem Dd.os {x y z:Q} (ox:x.ok=true) (oy:y.ok=true) (oz:z.ok=true):Dd.o (dI x.c0).1 (dI x.c0).2 (dI x.c1).1 (dI x.c1).2 (dI x.c2).1 (dI x.c2).2 (dI x.c3).1 (dI x.c3).2 (dI x.d).1 (dI x.d).2 (dI y.c0).1 (dI y.c0).2 (dI y.c1).1 (dI y.c1).2 (dI y.c2).1 (dI y.c2).2 (dI y.c3).1 (dI y.c3).2 (dI y.d).1 (dI y.d).2 (dI z.c0).1 (dI z.c0).2 (dI z.c1).1 (dI z.c1).2 (dI z.c2).1 (dI z.c2).2 (dI z.c3).1 (dI z.c3).2 (dI z.d).1 (dI z.d).2=some (x.nul&&(y.nul&&z.nul)):=by
 have e:∀ {w:Q},w.ok=true→(w.c0==0&&(w.c1==0&&(w.c2==0&&w.c3==0))&&w.d==1)=w.nul:=fun {w} ow=>by
  cases hn:w.nul with
  |true=>rw [R6 ow hn]; rfl
  | false=>
   have:(w.c0==0&&(w.c1==0&&(w.c2==0&&w.c3==0)))=w.nul:=by unfold Q.nul; simp only [Bool.and_assoc]
   rw [this,hn]; rfl
 have z0:(qof 0).c0=0∧(qof 0).c1=0∧(qof 0).c2=0∧(qof 0).c3=0∧(qof 0).d=1:=⟨rfl,rfl,rfl,rfl,rfl⟩
 simp only [Dd.o,Dd.K,Dz.ps,Dz.es,cond_true,LA,z0.1,z0.2.1,z0.2.2.1,z0.2.2.2.1,z0.2.2.2.2]
 rw [←e ox,←e oy,←e oz]
theorem Dd.ps {x y z:Q} (ox:x.ok=true) (oy:y.ok=true) (oz:z.ok=true):Dd.pre (dI x.c0).1 (dI x.c0).2 (dI x.c1).1 (dI x.c1).2 (dI x.c2).1 (dI x.c2).2 (dI x.c3).1 (dI x.c3).2 (dI x.d).1 (dI x.d).2 (dI y.c0).1 (dI y.c0).2 (dI y.c1).1 (dI y.c1).2 (dI y.c2).1 (dI y.c2).2 (dI y.c3).1 (dI y.c3).2 (dI y.d).1 (dI y.d).2 (dI z.c0).1 (dI z.c0).2 (dI z.c1).1 (dI z.c1).2 (dI z.c2).1 (dI z.c2).2 (dI z.c3).1 (dI z.c3).2 (dI z.d).1 (dI z.d).2=true:=Fk (Dd.os ox oy oz)
theorem Dd.es {x y z:Q} (ox:x.ok=true) (oy:y.ok=true) (oz:z.ok=true):Dd (dI x.c0).1 (dI x.c0).2 (dI x.c1).1 (dI x.c1).2 (dI x.c2).1 (dI x.c2).2 (dI x.c3).1 (dI x.c3).2 (dI x.d).1 (dI x.d).2 (dI y.c0).1 (dI y.c0).2 (dI y.c1).1 (dI y.c1).2 (dI y.c2).1 (dI y.c2).2 (dI y.c3).1 (dI y.c3).2 (dI y.d).1 (dI y.d).2 (dI z.c0).1 (dI z.c0).2 (dI z.c1).1 (dI z.c1).2 (dI z.c2).1 (dI z.c2).2 (dI z.c3).1 (dI z.c3).2 (dI z.d).1 (dI z.d).2=(x.nul&&(y.nul&&z.nul)):=GT (Dd.os ox oy oz)
end
theorem Dd.ok:SOK Tryz.prog 67 (Dd.sp Dd Dd.pre):=by
 refine Cu (E:=⟨[(95,Dz.sp Dz Dz.pre)],[],[]⟩) (L:=[]) ⟨(Aa Dz.ok Ac),Ai,Ad,Ah⟩ 60 Tryz.func67 (by decide) rfl Bv fun vs bl v bl' h=> ?_
 unfold Dd.sp at h
 split at h
 ·rename_i A2 A3 A8 A7 A6 A9 AB AA AD AC BK BJ BI BH BG BF BE BD BC BB BA B9 B8 B7 B6 B5 B4 B3 B2 AZ
  simp only [zS,zP] at h
  obtain ⟨hp,rfl,rfl⟩:=h
  have hr:=Dd.run Dz Dz.pre A2 A3 A8 A7 A6 A9 AB AA AD AC BK BJ BI BH BG BF BE BD BC BB BA B9 B8 B7 B6 B5 B4 B3 B2 AZ
  rw [Dd.nat] at hr
  obtain ⟨r,h2⟩:=Option.isSome_iff_exists.1 (hp:(Dd.o A2 A3 A8 A7 A6 A9 AB AA AD AC BK BJ BI BH BG BF BE BD BC BB BA B9 B8 B7 B6 B5 B4 B3 B2 AZ).isSome=true)
  have h3:Dd A2 A3 A8 A7 A6 A9 AB AA AD AC BK BJ BI BH BG BF BE BD BC BB BA B9 B8 B7 B6 B5 B4 B3 B2 AZ=r:=by unfold Dd; rw [h2]; rfl
  have h4:Dd.K Dz Dz.pre A2 A3 A8 A7 A6 A9 AB AA AD AC BK BJ BI BH BG BF BE BD BC BB BA B9 B8 B7 B6 B5 B4 B3 B2 AZ some=some r:=h2
  rw [h4,Option.bind_some] at hr
  rw [h3]
  exact ⟨hr,by simp [okV,Nat.blt],clo_spec 8 _ (by kernel_rfl),Ay (by kernel_rfl)⟩
 ·cases h
section
variable {R:Type} (E5:TF15 (Bool)) (E4:TF15 Bool) (G9:TF15 (Bool)) (G7:TF15 Bool) (C0:TF5 (Bool)) (BZ:TF5 Bool) (A2:Bool) (A3:ByteArray) (A8:Bool) (A7:ByteArray) (A6:Bool) (A9:ByteArray) (AB:Bool) (AA:ByteArray) (AD:Bool) (AC:ByteArray) (BK:Bool) (BJ:ByteArray) (BI:Bool) (BH:ByteArray) (BG:Bool) (BF:ByteArray) (BE:Bool) (BD:ByteArray) (BC:Bool) (BB:ByteArray) (BA:Bool) (B9:ByteArray) (B8:Bool) (B7:ByteArray) (B6:Bool) (B5:ByteArray) (B4:Bool) (B3:ByteArray) (B2:Bool) (AZ:ByteArray) (CJ:Bool) (CI:ByteArray) (CH:Bool) (CG:ByteArray) (CF:Bool) (CE:ByteArray) (CD:Bool) (CC:ByteArray) (CB:Bool) (CA:ByteArray)
noncomputable def De.K (k:(Bool)→Option R):Option R:=
 let t0:=E4 A2 A3 A8 A7 A6 A9 AB AA AD AC BK BJ BI BH BG BF BE BD BC BB BA B9 B8 B7 B6 B5 B4 B3 B2 AZ
 bif t0 then
 let t1:=E5 A2 A3 A8 A7 A6 A9 AB AA AD AC BK BJ BI BH BG BF BE BD BC BB BA B9 B8 B7 B6 B5 B4 B3 B2 AZ
 bif t1 then
 let t2:=G7 A2 A3 A8 A7 A6 A9 AB AA AD AC BK BJ BI BH BG BF BE BD BC BB BA B9 B8 B7 B6 B5 B4 B3 B2 AZ
 bif t2 then
 let t3:=G9 A2 A3 A8 A7 A6 A9 AB AA AD AC BK BJ BI BH BG BF BE BD BC BB BA B9 B8 B7 B6 B5 B4 B3 B2 AZ
 bif !t3 then
 let t4:=BZ CJ CI CH CG CF CE CD CC CB CA
 bif t4 then
 let t5:=C0 CJ CI CH CG CF CE CD CC CB CA
 k (t5) else none else k (false) else none else k (false) else none
theorem De.run:xfn Tryz.prog ⟨[(66,Dj.sp E5 E4),(67,Dd.sp G9 G7),(68,Ae.sp C0 BZ)],[],[]⟩ [] 60 Tryz.f28 [.agg ⟨.bool A2:: .string A3:: .bool A8:: .string A7:: .bool A6:: .string A9:: .bool AB:: .string AA:: .bool AD:: .string AC:: .bool BK:: .string BJ:: .bool BI:: .string BH:: .bool BG:: .string BF:: .bool BE:: .string BD:: .bool BC:: .string BB:: .bool BA:: .string B9:: .bool B8:: .string B7:: .bool B6:: .string B5:: .bool B4:: .string B3:: .bool B2:: .string AZ:: .bool CJ:: .string CI:: .bool CH:: .string CG:: .bool CF:: .string CE:: .bool CD:: .string CC:: .bool CB:: .string CA::[]⟩] []=De.K E5 E4 G9 G7 C0 BZ A2 A3 A8 A7 A6 A9 AB AA AD AC BK BJ BI BH BG BF BE BD BC BB BA B9 B8 B7 B6 B5 B4 B3 B2 AZ CJ CI CH CG CF CE CD CC CB CA (fun r=>some (.bool r,[])):=by kernel_rfl
noncomputable def De.o:Option (Bool):=De.K Dj Dj.pre Dd Dd.pre Ae Ae.pre A2 A3 A8 A7 A6 A9 AB AA AD AC BK BJ BI BH BG BF BE BD BC BB BA B9 B8 B7 B6 B5 B4 B3 B2 AZ CJ CI CH CG CF CE CD CC CB CA some
noncomputable def De.pre:Bool:=(De.o A2 A3 A8 A7 A6 A9 AB AA AD AC BK BJ BI BH BG BF BE BD BC BB BA B9 B8 B7 B6 B5 B4 B3 B2 AZ CJ CI CH CG CF CE CD CC CB CA).isSome
noncomputable def De:Bool:=(De.o A2 A3 A8 A7 A6 A9 AB AA AD AC BK BJ BI BH BG BF BE BD BC BB BA B9 B8 B7 B6 B5 B4 B3 B2 AZ CJ CI CH CG CF CE CD CC CB CA).getD default
theorem De.nat (k:(Bool)→Option R):De.K E5 E4 G9 G7 C0 BZ A2 A3 A8 A7 A6 A9 AB AA AD AC BK BJ BI BH BG BF BE BD BC BB BA B9 B8 B7 B6 B5 B4 B3 B2 AZ CJ CI CH CG CF CE CD CC CB CA k=(De.K E5 E4 G9 G7 C0 BZ A2 A3 A8 A7 A6 A9 AB AA AD AC BK BJ BI BH BG BF BE BD BC BB BA B9 B8 B7 B6 B5 B4 B3 B2 AZ CJ CI CH CG CF CE CD CC CB CA some).bind k:=by
 simp only [De.K,bcond,Option.bind_some,Option.bind_none]
end
theorem Dj.ps {k:Nat} {x y z:Q} (hx:x.Bd k) (hy:y.Bd k) (hz:z.Bd k) (hk:k≤LIM):Dj.pre (dI x.c0).1 (dI x.c0).2 (dI x.c1).1 (dI x.c1).2 (dI x.c2).1 (dI x.c2).2 (dI x.c3).1 (dI x.c3).2 (dI x.d).1 (dI x.d).2 (dI y.c0).1 (dI y.c0).2 (dI y.c1).1 (dI y.c1).2 (dI y.c2).1 (dI y.c2).2 (dI y.c3).1 (dI y.c3).2 (dI y.d).1 (dI y.d).2 (dI z.c0).1 (dI z.c0).2 (dI z.c1).1 (dI z.c1).2 (dI z.c2).1 (dI z.c2).2 (dI z.c3).1 (dI z.c3).2 (dI z.d).1 (dI z.d).2=true:=by
 simp only [Dj.pre,Ae.ps hx hk,Ae.ps hy hk,Ae.ps hz hk,Bool.and_self]
theorem Dj.es {k:Nat} {x y z:Q} (hx:x.Bd k) (hy:y.Bd k) (hz:z.Bd k) (hk:k≤LIM):Dj (dI x.c0).1 (dI x.c0).2 (dI x.c1).1 (dI x.c1).2 (dI x.c2).1 (dI x.c2).2 (dI x.c3).1 (dI x.c3).2 (dI x.d).1 (dI x.d).2 (dI y.c0).1 (dI y.c0).2 (dI y.c1).1 (dI y.c1).2 (dI y.c2).1 (dI y.c2).2 (dI y.c3).1 (dI y.c3).2 (dI y.d).1 (dI y.d).2 (dI z.c0).1 (dI z.c0).2 (dI z.c1).1 (dI z.c1).2 (dI z.c2).1 (dI z.c2).2 (dI z.c3).1 (dI z.c3).2 (dI z.d).1 (dI z.d).2=(x.ok&&(y.ok&&z.ok)):=by
 simp only [Dj,Ae.es hx hk,Ae.es hy hk,Ae.es hz hk]
theorem De.os {k:Nat} {x y z q:Q} (hx:x.Bd k) (hy:y.Bd k) (hz:z.Bd k) (hq:q.Bd k) (hk:k≤LIM) (ox:x.ok=true) (oy:y.ok=true) (oz:z.ok=true) (oq:q.ok=true):De.o (dI x.c0).1 (dI x.c0).2 (dI x.c1).1 (dI x.c1).2 (dI x.c2).1 (dI x.c2).2 (dI x.c3).1 (dI x.c3).2 (dI x.d).1 (dI x.d).2 (dI y.c0).1 (dI y.c0).2 (dI y.c1).1 (dI y.c1).2 (dI y.c2).1 (dI y.c2).2 (dI y.c3).1 (dI y.c3).2 (dI y.d).1 (dI y.d).2 (dI z.c0).1 (dI z.c0).2 (dI z.c1).1 (dI z.c1).2 (dI z.c2).1 (dI z.c2).2 (dI z.c3).1 (dI z.c3).2 (dI z.d).1 (dI z.d).2 (dI q.c0).1 (dI q.c0).2 (dI q.c1).1 (dI q.c1).2 (dI q.c2).1 (dI q.c2).2 (dI q.c3).1 (dI q.c3).2 (dI q.d).1 (dI q.d).2=some (!(x.nul&&(y.nul&&z.nul))):=by
 simp only [De.o,De.K,Dj.ps hx hy hz hk,Dj.es hx hy hz hk,Dd.ps ox oy oz,Dd.es ox oy oz,Ae.ps hq hk,Ae.es hq hk,ox,oy,oz,oq,Bool.and_self,cond_true]
 cases (x.nul&&(y.nul&&z.nul))<;>rfl
theorem De.ps {k:Nat} {x y z q:Q} (hx:x.Bd k) (hy:y.Bd k) (hz:z.Bd k) (hq:q.Bd k) (hk:k≤LIM) (ox:x.ok=true) (oy:y.ok=true) (oz:z.ok=true) (oq:q.ok=true):De.pre (dI x.c0).1 (dI x.c0).2 (dI x.c1).1 (dI x.c1).2 (dI x.c2).1 (dI x.c2).2 (dI x.c3).1 (dI x.c3).2 (dI x.d).1 (dI x.d).2 (dI y.c0).1 (dI y.c0).2 (dI y.c1).1 (dI y.c1).2 (dI y.c2).1 (dI y.c2).2 (dI y.c3).1 (dI y.c3).2 (dI y.d).1 (dI y.d).2 (dI z.c0).1 (dI z.c0).2 (dI z.c1).1 (dI z.c1).2 (dI z.c2).1 (dI z.c2).2 (dI z.c3).1 (dI z.c3).2 (dI z.d).1 (dI z.d).2 (dI q.c0).1 (dI q.c0).2 (dI q.c1).1 (dI q.c1).2 (dI q.c2).1 (dI q.c2).2 (dI q.c3).1 (dI q.c3).2 (dI q.d).1 (dI q.d).2=true:=Fk (De.os hx hy hz hq hk ox oy oz oq)
theorem De.es {k:Nat} {x y z q:Q} (hx:x.Bd k) (hy:y.Bd k) (hz:z.Bd k) (hq:q.Bd k) (hk:k≤LIM) (ox:x.ok=true) (oy:y.ok=true) (oz:z.ok=true) (oq:q.ok=true):De (dI x.c0).1 (dI x.c0).2 (dI x.c1).1 (dI x.c1).2 (dI x.c2).1 (dI x.c2).2 (dI x.c3).1 (dI x.c3).2 (dI x.d).1 (dI x.d).2 (dI y.c0).1 (dI y.c0).2 (dI y.c1).1 (dI y.c1).2 (dI y.c2).1 (dI y.c2).2 (dI y.c3).1 (dI y.c3).2 (dI y.d).1 (dI y.d).2 (dI z.c0).1 (dI z.c0).2 (dI z.c1).1 (dI z.c1).2 (dI z.c2).1 (dI z.c2).2 (dI z.c3).1 (dI z.c3).2 (dI z.d).1 (dI z.d).2 (dI q.c0).1 (dI q.c0).2 (dI q.c1).1 (dI q.c1).2 (dI q.c2).1 (dI q.c2).2 (dI q.c3).1 (dI q.c3).2 (dI q.d).1 (dI q.d).2=(!(x.nul&&(y.nul&&z.nul))):=GT (De.os hx hy hz hq hk ox oy oz oq)
theorem De.ok:SOK Tryz.prog 28 (De.sp De De.pre):=by
 refine Cu (E:=⟨[(66,Dj.sp Dj Dj.pre),(67,Dd.sp Dd Dd.pre),(68,Ae.sp Ae Ae.pre)],[],[]⟩) (L:=[]) ⟨(Aa Dj.ok (Aa Dd.ok (Aa Ae.ok Ac))),Ai,Ad,Ah⟩ 60 Tryz.func28 (by decide) rfl Bv fun vs bl v bl' h=> ?_
 unfold De.sp at h
 split at h
 ·rename_i A2 A3 A8 A7 A6 A9 AB AA AD AC BK BJ BI BH BG BF BE BD BC BB BA B9 B8 B7 B6 B5 B4 B3 B2 AZ CJ CI CH CG CF CE CD CC CB CA
  simp only [zS,zP] at h
  obtain ⟨hp,rfl,rfl⟩:=h
  have hr:=De.run Dj Dj.pre Dd Dd.pre Ae Ae.pre A2 A3 A8 A7 A6 A9 AB AA AD AC BK BJ BI BH BG BF BE BD BC BB BA B9 B8 B7 B6 B5 B4 B3 B2 AZ CJ CI CH CG CF CE CD CC CB CA
  rw [De.nat] at hr
  obtain ⟨r,h2⟩:=Option.isSome_iff_exists.1 (hp:(De.o A2 A3 A8 A7 A6 A9 AB AA AD AC BK BJ BI BH BG BF BE BD BC BB BA B9 B8 B7 B6 B5 B4 B3 B2 AZ CJ CI CH CG CF CE CD CC CB CA).isSome=true)
  have h3:De A2 A3 A8 A7 A6 A9 AB AA AD AC BK BJ BI BH BG BF BE BD BC BB BA B9 B8 B7 B6 B5 B4 B3 B2 AZ CJ CI CH CG CF CE CD CC CB CA=r:=by unfold De; rw [h2]; rfl
  have h4:De.K Dj Dj.pre Dd Dd.pre Ae Ae.pre A2 A3 A8 A7 A6 A9 AB AA AD AC BK BJ BI BH BG BF BE BD BC BB BA B9 B8 B7 B6 B5 B4 B3 B2 AZ CJ CI CH CG CF CE CD CC CB CA some=some r:=h2
  rw [h4,Option.bind_some] at hr
  rw [h3]
  exact ⟨hr,by simp [okV,Nat.blt],clo_spec 8 _ (by kernel_rfl),Ay (by kernel_rfl)⟩
 ·cases h
section
variable {R:Type} (EG:TF10 (TY5)) (EF:TF10 Bool) (E5:TF15 (Bool)) (E4:TF15 Bool) (E3:TF10 (TY5)) (E2:TF10 Bool) (A2:Bool) (A3:ByteArray) (A8:Bool) (A7:ByteArray) (A6:Bool) (A9:ByteArray) (AB:Bool) (AA:ByteArray) (AD:Bool) (AC:ByteArray) (BK:Bool) (BJ:ByteArray) (BI:Bool) (BH:ByteArray) (BG:Bool) (BF:ByteArray) (BE:Bool) (BD:ByteArray) (BC:Bool) (BB:ByteArray) (BA:Bool) (B9:ByteArray) (B8:Bool) (B7:ByteArray) (B6:Bool) (B5:ByteArray) (B4:Bool) (B3:ByteArray) (B2:Bool) (AZ:ByteArray) (A5:Bool) (A4:ByteArray) (AF:Bool) (AE:ByteArray) (AH:Bool) (AG:ByteArray) (AO:Bool) (AN:ByteArray) (AM:Bool) (AL:ByteArray) (DT:Bool) (DS:ByteArray) (DR:Bool) (DQ:ByteArray) (DP:Bool) (DO:ByteArray) (DN:Bool) (DM:ByteArray) (DL:Bool) (DK:ByteArray) (DJ:Bool) (DI:ByteArray) (DH:Bool) (DG:ByteArray) (DF:Bool) (DE:ByteArray) (DD:Bool) (DC:ByteArray) (DB:Bool) (DA:ByteArray)
noncomputable def Do.K (k:TY5→Option R):Option R:=
 let t0:=E4 A2 A3 A8 A7 A6 A9 AB AA AD AC BK BJ BI BH BG BF BE BD BC BB BA B9 B8 B7 B6 B5 B4 B3 B2 AZ
 bif t0 then
 let t1:=E5 A2 A3 A8 A7 A6 A9 AB AA AD AC BK BJ BI BH BG BF BE BD BC BB BA B9 B8 B7 B6 B5 B4 B3 B2 AZ
 bif !t1 then
 let t2:=E2 false {data:= #[]} false {data:= #[]} false {data:= #[]} false {data:= #[]} false {data:= #[]} false {data:= #[]} false {data:= #[]} false {data:= #[]} false {data:= #[]} false {data:= #[]}
 bif t2 then
 let t3:=E3 false {data:= #[]} false {data:= #[]} false {data:= #[]} false {data:= #[]} false {data:= #[]} false {data:= #[]} false {data:= #[]} false {data:= #[]} false {data:= #[]} false {data:= #[]}
 let t4:=E2 t3.1 t3.2.1 t3.2.2.1 t3.2.2.2.1 t3.2.2.2.2.1 t3.2.2.2.2.2.1 t3.2.2.2.2.2.2.1 t3.2.2.2.2.2.2.2.1 t3.2.2.2.2.2.2.2.2.1 t3.2.2.2.2.2.2.2.2.2 false {data:= #[]} false {data:= #[]} false {data:= #[]} false {data:= #[]} false {data:= #[]}
 bif t4 then
 let t5:=E3 t3.1 t3.2.1 t3.2.2.1 t3.2.2.2.1 t3.2.2.2.2.1 t3.2.2.2.2.2.1 t3.2.2.2.2.2.2.1 t3.2.2.2.2.2.2.2.1 t3.2.2.2.2.2.2.2.2.1 t3.2.2.2.2.2.2.2.2.2 false {data:= #[]} false {data:= #[]} false {data:= #[]} false {data:= #[]} false {data:= #[]}
 k (t5.1,t5.2.1,t5.2.2.1,t5.2.2.2.1,t5.2.2.2.2.1,t5.2.2.2.2.2.1,t5.2.2.2.2.2.2.1,t5.2.2.2.2.2.2.2.1,t5.2.2.2.2.2.2.2.2.1,t5.2.2.2.2.2.2.2.2.2) else none else none else
 let t6:=E4 A5 A4 AF AE AH AG AO AN AM AL DT DS DR DQ DP DO DN DM DL DK DJ DI DH DG DF DE DD DC DB DA
 bif t6 then
 let t7:=E5 A5 A4 AF AE AH AG AO AN AM AL DT DS DR DQ DP DO DN DM DL DK DJ DI DH DG DF DE DD DC DB DA
 bif !t7 then
 let t8:=E2 false {data:= #[]} false {data:= #[]} false {data:= #[]} false {data:= #[]} false {data:= #[]} false {data:= #[]} false {data:= #[]} false {data:= #[]} false {data:= #[]} false {data:= #[]}
 bif t8 then
 let t9:=E3 false {data:= #[]} false {data:= #[]} false {data:= #[]} false {data:= #[]} false {data:= #[]} false {data:= #[]} false {data:= #[]} false {data:= #[]} false {data:= #[]} false {data:= #[]}
 let t10:=E2 t9.1 t9.2.1 t9.2.2.1 t9.2.2.2.1 t9.2.2.2.2.1 t9.2.2.2.2.2.1 t9.2.2.2.2.2.2.1 t9.2.2.2.2.2.2.2.1 t9.2.2.2.2.2.2.2.2.1 t9.2.2.2.2.2.2.2.2.2 false {data:= #[]} false {data:= #[]} false {data:= #[]} false {data:= #[]} false {data:= #[]}
 bif t10 then
 let t11:=E3 t9.1 t9.2.1 t9.2.2.1 t9.2.2.2.1 t9.2.2.2.2.1 t9.2.2.2.2.2.1 t9.2.2.2.2.2.2.1 t9.2.2.2.2.2.2.2.1 t9.2.2.2.2.2.2.2.2.1 t9.2.2.2.2.2.2.2.2.2 false {data:= #[]} false {data:= #[]} false {data:= #[]} false {data:= #[]} false {data:= #[]}
 k (t11.1,t11.2.1,t11.2.2.1,t11.2.2.2.1,t11.2.2.2.2.1,t11.2.2.2.2.2.1,t11.2.2.2.2.2.2.1,t11.2.2.2.2.2.2.2.1,t11.2.2.2.2.2.2.2.2.1,t11.2.2.2.2.2.2.2.2.2) else none else none else
 let t12:=EF A2 A3 A8 A7 A6 A9 AB AA AD AC A5 A4 AF AE AH AG AO AN AM AL
 bif t12 then
 let t13:=EF BK BJ BI BH BG BF BE BD BC BB DT DS DR DQ DP DO DN DM DL DK
 bif t13 then
 let t14:=EF BA B9 B8 B7 B6 B5 B4 B3 B2 AZ DJ DI DH DG DF DE DD DC DB DA
 bif t14 then
 let t15:=EG A2 A3 A8 A7 A6 A9 AB AA AD AC A5 A4 AF AE AH AG AO AN AM AL
 let t16:=EG BK BJ BI BH BG BF BE BD BC BB DT DS DR DQ DP DO DN DM DL DK
 let t17:=E2 t15.1 t15.2.1 t15.2.2.1 t15.2.2.2.1 t15.2.2.2.2.1 t15.2.2.2.2.2.1 t15.2.2.2.2.2.2.1 t15.2.2.2.2.2.2.2.1 t15.2.2.2.2.2.2.2.2.1 t15.2.2.2.2.2.2.2.2.2 t16.1 t16.2.1 t16.2.2.1 t16.2.2.2.1 t16.2.2.2.2.1 t16.2.2.2.2.2.1 t16.2.2.2.2.2.2.1 t16.2.2.2.2.2.2.2.1 t16.2.2.2.2.2.2.2.2.1 t16.2.2.2.2.2.2.2.2.2
 bif t17 then
 let t18:=E3 t15.1 t15.2.1 t15.2.2.1 t15.2.2.2.1 t15.2.2.2.2.1 t15.2.2.2.2.2.1 t15.2.2.2.2.2.2.1 t15.2.2.2.2.2.2.2.1 t15.2.2.2.2.2.2.2.2.1 t15.2.2.2.2.2.2.2.2.2 t16.1 t16.2.1 t16.2.2.1 t16.2.2.2.1 t16.2.2.2.2.1 t16.2.2.2.2.2.1 t16.2.2.2.2.2.2.1 t16.2.2.2.2.2.2.2.1 t16.2.2.2.2.2.2.2.2.1 t16.2.2.2.2.2.2.2.2.2
 let t19:=EG BA B9 B8 B7 B6 B5 B4 B3 B2 AZ DJ DI DH DG DF DE DD DC DB DA
 let t20:=E2 t18.1 t18.2.1 t18.2.2.1 t18.2.2.2.1 t18.2.2.2.2.1 t18.2.2.2.2.2.1 t18.2.2.2.2.2.2.1 t18.2.2.2.2.2.2.2.1 t18.2.2.2.2.2.2.2.2.1 t18.2.2.2.2.2.2.2.2.2 t19.1 t19.2.1 t19.2.2.1 t19.2.2.2.1 t19.2.2.2.2.1 t19.2.2.2.2.2.1 t19.2.2.2.2.2.2.1 t19.2.2.2.2.2.2.2.1 t19.2.2.2.2.2.2.2.2.1 t19.2.2.2.2.2.2.2.2.2
 bif t20 then
 let t21:=E3 t18.1 t18.2.1 t18.2.2.1 t18.2.2.2.1 t18.2.2.2.2.1 t18.2.2.2.2.2.1 t18.2.2.2.2.2.2.1 t18.2.2.2.2.2.2.2.1 t18.2.2.2.2.2.2.2.2.1 t18.2.2.2.2.2.2.2.2.2 t19.1 t19.2.1 t19.2.2.1 t19.2.2.2.1 t19.2.2.2.2.1 t19.2.2.2.2.2.1 t19.2.2.2.2.2.2.1 t19.2.2.2.2.2.2.2.1 t19.2.2.2.2.2.2.2.2.1 t19.2.2.2.2.2.2.2.2.2
 k (t21.1,t21.2.1,t21.2.2.1,t21.2.2.2.1,t21.2.2.2.2.1,t21.2.2.2.2.2.1,t21.2.2.2.2.2.2.1,t21.2.2.2.2.2.2.2.1,t21.2.2.2.2.2.2.2.2.1,t21.2.2.2.2.2.2.2.2.2) else none else none else none else none else none else none else none
theorem Do.run:xfn Tryz.prog ⟨[(69,Cy.sp EG EF),(66,Dj.sp E5 E4),(71,Cw.sp E3 E2)],[(70,Tryz.f70)],[]⟩ [] 60 Tryz.f29 [.agg ⟨[.bool A2,.string A3,.bool A8,.string A7,.bool A6,.string A9,.bool AB,.string AA,.bool AD,.string AC,.bool BK,.string BJ,.bool BI,.string BH,.bool BG,.string BF,.bool BE,.string BD,.bool BC,.string BB,.bool BA,.string B9,.bool B8,.string B7,.bool B6,.string B5,.bool B4,.string B3,.bool B2,.string AZ]⟩,.agg ⟨[.bool A5,.string A4,.bool AF,.string AE,.bool AH,.string AG,.bool AO,.string AN,.bool AM,.string AL,.bool DT,.string DS,.bool DR,.string DQ,.bool DP,.string DO,.bool DN,.string DM,.bool DL,.string DK,.bool DJ,.string DI,.bool DH,.string DG,.bool DF,.string DE,.bool DD,.string DC,.bool DB,.string DA]⟩] []=Do.K EG EF E5 E4 E3 E2 A2 A3 A8 A7 A6 A9 AB AA AD AC BK BJ BI BH BG BF BE BD BC BB BA B9 B8 B7 B6 B5 B4 B3 B2 AZ A5 A4 AF AE AH AG AO AN AM AL DT DS DR DQ DP DO DN DM DL DK DJ DI DH DG DF DE DD DC DB DA (fun r=>some (.agg ⟨[.bool r.1,.string r.2.1,.bool r.2.2.1,.string r.2.2.2.1,.bool r.2.2.2.2.1,.string r.2.2.2.2.2.1,.bool r.2.2.2.2.2.2.1,.string r.2.2.2.2.2.2.2.1,.bool r.2.2.2.2.2.2.2.2.1,.string r.2.2.2.2.2.2.2.2.2]⟩,[])):=by kernel_rfl
noncomputable def Do.o:Option (TY5):=Do.K Cy Cy.pre Dj Dj.pre Cw Cw.pre A2 A3 A8 A7 A6 A9 AB AA AD AC BK BJ BI BH BG BF BE BD BC BB BA B9 B8 B7 B6 B5 B4 B3 B2 AZ A5 A4 AF AE AH AG AO AN AM AL DT DS DR DQ DP DO DN DM DL DK DJ DI DH DG DF DE DD DC DB DA some
noncomputable def Do.pre:Bool:=(Do.o A2 A3 A8 A7 A6 A9 AB AA AD AC BK BJ BI BH BG BF BE BD BC BB BA B9 B8 B7 B6 B5 B4 B3 B2 AZ A5 A4 AF AE AH AG AO AN AM AL DT DS DR DQ DP DO DN DM DL DK DJ DI DH DG DF DE DD DC DB DA).isSome
noncomputable def Do:TY5:=(Do.o A2 A3 A8 A7 A6 A9 AB AA AD AC BK BJ BI BH BG BF BE BD BC BB BA B9 B8 B7 B6 B5 B4 B3 B2 AZ A5 A4 AF AE AH AG AO AN AM AL DT DS DR DQ DP DO DN DM DL DK DJ DI DH DG DF DE DD DC DB DA).getD default
theorem Do.nat (k:TY5→Option R):Do.K EG EF E5 E4 E3 E2 A2 A3 A8 A7 A6 A9 AB AA AD AC BK BJ BI BH BG BF BE BD BC BB BA B9 B8 B7 B6 B5 B4 B3 B2 AZ A5 A4 AF AE AH AG AO AN AM AL DT DS DR DQ DP DO DN DM DL DK DJ DI DH DG DF DE DD DC DB DA k=(Do.K EG EF E5 E4 E3 E2 A2 A3 A8 A7 A6 A9 AB AA AD AC BK BJ BI BH BG BF BE BD BC BB BA B9 B8 B7 B6 B5 B4 B3 B2 AZ A5 A4 AF AE AH AG AO AN AM AL DT DS DR DQ DP DO DN DM DL DK DJ DI DH DG DF DE DD DC DB DA some).bind k:=by
 simp only [Do.K,bcond,Option.bind_some,Option.bind_none]
end
def qsq (x y z:Q):Q:=qadd (qadd (qmul x x) (qmul y y)) (qmul z z)
theorem Sc {x y z:Q} (ox:x.ok=true) (oy:y.ok=true) (oz:z.ok=true):(qsq x y z).ok=true:=JF (JF (Fy ox ox) (Fy oy oy)) (Fy oz oz)
theorem qsq_bd {k:Nat} {x y z:Q} (hx:x.Bd k) (hy:y.Bd k) (hz:z.Bd k) (ox:x.ok=true) (oy:y.ok=true) (oz:z.ok=true):(qsq x y z).Bd (6*k+17):=
 (MI (MI (H0 hx hx ox ox) (H0 hy hy oy oy) (Fy ox ox) (Fy oy oy)) (H0 hz hz oz oz) (JF (Fy ox ox) (Fy oy oy)) (Fy oz oz)).mono (by omega)
theorem Do.os {k:Nat} {x y z:Q} (hx:x.Bd k) (hy:y.Bd k) (hz:z.Bd k) (hk:6*k+20≤4000000) (ox:x.ok=true) (oy:y.ok=true) (oz:z.ok=true):Do.o (dI x.c0).1 (dI x.c0).2 (dI x.c1).1 (dI x.c1).2 (dI x.c2).1 (dI x.c2).2 (dI x.c3).1 (dI x.c3).2 (dI x.d).1 (dI x.d).2 (dI y.c0).1 (dI y.c0).2 (dI y.c1).1 (dI y.c1).2 (dI y.c2).1 (dI y.c2).2 (dI y.c3).1 (dI y.c3).2 (dI y.d).1 (dI y.d).2 (dI z.c0).1 (dI z.c0).2 (dI z.c1).1 (dI z.c1).2 (dI z.c2).1 (dI z.c2).2 (dI z.c3).1 (dI z.c3).2 (dI z.d).1 (dI z.d).2 (dI x.c0).1 (dI x.c0).2 (dI x.c1).1 (dI x.c1).2 (dI x.c2).1 (dI x.c2).2 (dI x.c3).1 (dI x.c3).2 (dI x.d).1 (dI x.d).2 (dI y.c0).1 (dI y.c0).2 (dI y.c1).1 (dI y.c1).2 (dI y.c2).1 (dI y.c2).2 (dI y.c3).1 (dI y.c3).2 (dI y.d).1 (dI y.d).2 (dI z.c0).1 (dI z.c0).2 (dI z.c1).1 (dI z.c1).2 (dI z.c2).1 (dI z.c2).2 (dI z.c3).1 (dI z.c3).2 (dI z.d).1 (dI z.d).2=some (C5 (qsq x y z)):=by
 have hL:k≤LIM:=by unfold LIM; omega
 have hP:k≤PRM:=by unfold PRM; omega
 have mp:=fun {w:Q} (hw:w.Bd k)=>Cy.ps hw hw hP hP
 have me:∀ {w:Q},w.Bd k→w.ok=true→Cy (dI w.c0).1 (dI w.c0).2 (dI w.c1).1 (dI w.c1).2 (dI w.c2).1 (dI w.c2).2 (dI w.c3).1 (dI w.c3).2 (dI w.d).1 (dI w.d).2 (dI w.c0).1 (dI w.c0).2 (dI w.c1).1 (dI w.c1).2 (dI w.c2).1 (dI w.c2).2 (dI w.c3).1 (dI w.c3).2 (dI w.d).1 (dI w.d).2=C5 (qmul w w):=fun hw ow=>by
  have:=Cy.es hw hw hP hP
  rw [ow] at this
  exact this
 have bx:=H0 hx hx ox ox
 have by':=H0 hy hy oy oy
 have bz:=H0 hz hz oz oz
 have kx:=Fy ox ox
 have ky:=Fy oy oy
 have kz:=Fy oz oz
 have a1:=Cw.ps bx by' (by unfold PRM; omega) (by unfold PRM; omega)
 have a1':=Cw.es bx by' (by unfold PRM; omega) (by unfold PRM; omega)
 rw [kx,ky] at a1'
 change _=C5 (qadd (qmul x x) (qmul y y)) at a1'
 have b1:=MI bx by' kx ky
 have a2:=Cw.ps b1 bz (by unfold PRM; omega) (by unfold PRM; omega)
 have a2':=Cw.es b1 bz (by unfold PRM; omega) (by unfold PRM; omega)
 rw [JF kx ky,kz] at a2'
 change _=C5 (qsq x y z) at a2'
 simp only [Do.o,Do.K,Dj.ps hx hy hz hL,Dj.es hx hy hz hL,ox,oy,oz,Bool.and_self,zN,cond_true,cond_false,mp hx,mp hy,mp hz,me hx ox,me hy oy,me hz oz,C5,a1,a1',a2,a2']
theorem Do.ps {k:Nat} {x y z:Q} (hx:x.Bd k) (hy:y.Bd k) (hz:z.Bd k) (hk:6*k+20≤4000000) (ox:x.ok=true) (oy:y.ok=true) (oz:z.ok=true):Do.pre (dI x.c0).1 (dI x.c0).2 (dI x.c1).1 (dI x.c1).2 (dI x.c2).1 (dI x.c2).2 (dI x.c3).1 (dI x.c3).2 (dI x.d).1 (dI x.d).2 (dI y.c0).1 (dI y.c0).2 (dI y.c1).1 (dI y.c1).2 (dI y.c2).1 (dI y.c2).2 (dI y.c3).1 (dI y.c3).2 (dI y.d).1 (dI y.d).2 (dI z.c0).1 (dI z.c0).2 (dI z.c1).1 (dI z.c1).2 (dI z.c2).1 (dI z.c2).2 (dI z.c3).1 (dI z.c3).2 (dI z.d).1 (dI z.d).2 (dI x.c0).1 (dI x.c0).2 (dI x.c1).1 (dI x.c1).2 (dI x.c2).1 (dI x.c2).2 (dI x.c3).1 (dI x.c3).2 (dI x.d).1 (dI x.d).2 (dI y.c0).1 (dI y.c0).2 (dI y.c1).1 (dI y.c1).2 (dI y.c2).1 (dI y.c2).2 (dI y.c3).1 (dI y.c3).2 (dI y.d).1 (dI y.d).2 (dI z.c0).1 (dI z.c0).2 (dI z.c1).1 (dI z.c1).2 (dI z.c2).1 (dI z.c2).2 (dI z.c3).1 (dI z.c3).2 (dI z.d).1 (dI z.d).2=true:=Fk (Do.os hx hy hz hk ox oy oz)
theorem Do.es {k:Nat} {x y z:Q} (hx:x.Bd k) (hy:y.Bd k) (hz:z.Bd k) (hk:6*k+20≤4000000) (ox:x.ok=true) (oy:y.ok=true) (oz:z.ok=true):Do (dI x.c0).1 (dI x.c0).2 (dI x.c1).1 (dI x.c1).2 (dI x.c2).1 (dI x.c2).2 (dI x.c3).1 (dI x.c3).2 (dI x.d).1 (dI x.d).2 (dI y.c0).1 (dI y.c0).2 (dI y.c1).1 (dI y.c1).2 (dI y.c2).1 (dI y.c2).2 (dI y.c3).1 (dI y.c3).2 (dI y.d).1 (dI y.d).2 (dI z.c0).1 (dI z.c0).2 (dI z.c1).1 (dI z.c1).2 (dI z.c2).1 (dI z.c2).2 (dI z.c3).1 (dI z.c3).2 (dI z.d).1 (dI z.d).2 (dI x.c0).1 (dI x.c0).2 (dI x.c1).1 (dI x.c1).2 (dI x.c2).1 (dI x.c2).2 (dI x.c3).1 (dI x.c3).2 (dI x.d).1 (dI x.d).2 (dI y.c0).1 (dI y.c0).2 (dI y.c1).1 (dI y.c1).2 (dI y.c2).1 (dI y.c2).2 (dI y.c3).1 (dI y.c3).2 (dI y.d).1 (dI y.d).2 (dI z.c0).1 (dI z.c0).2 (dI z.c1).1 (dI z.c1).2 (dI z.c2).1 (dI z.c2).2 (dI z.c3).1 (dI z.c3).2 (dI z.d).1 (dI z.d).2=C5 (qsq x y z):=GT (Do.os hx hy hz hk ox oy oz)
theorem Do.ok:SOK Tryz.prog 29 (Do.sp Do Do.pre):=by
 refine Cu (E:=⟨[(69,Cy.sp Cy Cy.pre),(66,Dj.sp Dj Dj.pre),(71,Cw.sp Cw Cw.pre)],[(70,Tryz.f70)],[]⟩) (L:=[]) ⟨(Aa Cy.ok (Aa Dj.ok (Aa Cw.ok Ac))),(Fl ⟨Tryz.func70,by decide,rfl⟩ Ai),Ad,Ah⟩ 60 Tryz.func29 (by decide) rfl Bv fun vs bl v bl' h=> ?_
 unfold Do.sp at h
 split at h
 ·rename_i A2 A3 A8 A7 A6 A9 AB AA AD AC BK BJ BI BH BG BF BE BD BC BB BA B9 B8 B7 B6 B5 B4 B3 B2 AZ A5 A4 AF AE AH AG AO AN AM AL DT DS DR DQ DP DO DN DM DL DK DJ DI DH DG DF DE DD DC DB DA
  simp only [zS,zP] at h
  obtain ⟨hp,rfl,rfl⟩:=h
  have hr:=Do.run Cy Cy.pre Dj Dj.pre Cw Cw.pre A2 A3 A8 A7 A6 A9 AB AA AD AC BK BJ BI BH BG BF BE BD BC BB BA B9 B8 B7 B6 B5 B4 B3 B2 AZ A5 A4 AF AE AH AG AO AN AM AL DT DS DR DQ DP DO DN DM DL DK DJ DI DH DG DF DE DD DC DB DA
  rw [Do.nat] at hr
  obtain ⟨r,h2⟩:=Option.isSome_iff_exists.1 (hp:(Do.o A2 A3 A8 A7 A6 A9 AB AA AD AC BK BJ BI BH BG BF BE BD BC BB BA B9 B8 B7 B6 B5 B4 B3 B2 AZ A5 A4 AF AE AH AG AO AN AM AL DT DS DR DQ DP DO DN DM DL DK DJ DI DH DG DF DE DD DC DB DA).isSome=true)
  have h3:Do A2 A3 A8 A7 A6 A9 AB AA AD AC BK BJ BI BH BG BF BE BD BC BB BA B9 B8 B7 B6 B5 B4 B3 B2 AZ A5 A4 AF AE AH AG AO AN AM AL DT DS DR DQ DP DO DN DM DL DK DJ DI DH DG DF DE DD DC DB DA=r:=by unfold Do; rw [h2]; rfl
  have h4:Do.K Cy Cy.pre Dj Dj.pre Cw Cw.pre A2 A3 A8 A7 A6 A9 AB AA AD AC BK BJ BI BH BG BF BE BD BC BB BA B9 B8 B7 B6 B5 B4 B3 B2 AZ A5 A4 AF AE AH AG AO AN AM AL DT DS DR DQ DP DO DN DM DL DK DJ DI DH DG DF DE DD DC DB DA some=some r:=h2
  rw [h4,Option.bind_some] at hr
  rw [h3]
  exact ⟨hr,by simp [okV,Nat.blt],clo_spec 8 _ (by kernel_rfl),Ay (by kernel_rfl)⟩
 ·cases h
section
variable {R:Type} (C1:Int→Int→Int→Int→Int→Int→Int→(Int×Int×Int×Int×Int×Int×Int×Int)) (GA:TF20 (Bool)) (G8:TF20 Bool) (GD:TF30 (TY5)) (GB:TF30 Bool) (AP:Int→Int→Int→Int→(Int×Int×Int)) (EK:TF10 (Int×Int×Int)) (EH:TF10 Bool) (A2:Bool) (A3:ByteArray) (A8:Bool) (A7:ByteArray) (A6:Bool) (A9:ByteArray) (AB:Bool) (AA:ByteArray) (AD:Bool) (AC:ByteArray) (BK:Bool) (BJ:ByteArray) (BI:Bool) (BH:ByteArray) (BG:Bool) (BF:ByteArray) (BE:Bool) (BD:ByteArray) (BC:Bool) (BB:ByteArray) (BA:Bool) (B9:ByteArray) (B8:Bool) (B7:ByteArray) (B6:Bool) (B5:ByteArray) (B4:Bool) (B3:ByteArray) (B2:Bool) (AZ:ByteArray) (CJ:Bool) (CI:ByteArray) (CH:Bool) (CG:ByteArray) (CF:Bool) (CE:ByteArray) (CD:Bool) (CC:ByteArray) (CB:Bool) (CA:ByteArray)
noncomputable def Bm.K (k:Int×Int×Int×Int×Int×Int×Int→Option R):Option R:=
 let t0:=G8 A2 A3 A8 A7 A6 A9 AB AA AD AC BK BJ BI BH BG BF BE BD BC BB BA B9 B8 B7 B6 B5 B4 B3 B2 AZ CJ CI CH CG CF CE CD CC CB CA
 bif t0 then
 let t1:=GA A2 A3 A8 A7 A6 A9 AB AA AD AC BK BJ BI BH BG BF BE BD BC BB BA B9 B8 B7 B6 B5 B4 B3 B2 AZ CJ CI CH CG CF CE CD CC CB CA
 bif !t1 then k (0,0,0,0,0,0,1) else
 let t2:=GB A2 A3 A8 A7 A6 A9 AB AA AD AC BK BJ BI BH BG BF BE BD BC BB BA B9 B8 B7 B6 B5 B4 B3 B2 AZ A2 A3 A8 A7 A6 A9 AB AA AD AC BK BJ BI BH BG BF BE BD BC BB BA B9 B8 B7 B6 B5 B4 B3 B2 AZ
 bif t2 then
 let t3:=GD A2 A3 A8 A7 A6 A9 AB AA AD AC BK BJ BI BH BG BF BE BD BC BB BA B9 B8 B7 B6 B5 B4 B3 B2 AZ A2 A3 A8 A7 A6 A9 AB AA AD AC BK BJ BI BH BG BF BE BD BC BB BA B9 B8 B7 B6 B5 B4 B3 B2 AZ
 let t4:=EH A2 A3 A8 A7 A6 A9 AB AA AD AC t3.1 t3.2.1 t3.2.2.1 t3.2.2.2.1 t3.2.2.2.2.1 t3.2.2.2.2.2.1 t3.2.2.2.2.2.2.1 t3.2.2.2.2.2.2.2.1 t3.2.2.2.2.2.2.2.2.1 t3.2.2.2.2.2.2.2.2.2
 bif t4 then
 let t5:=EH BK BJ BI BH BG BF BE BD BC BB t3.1 t3.2.1 t3.2.2.1 t3.2.2.2.1 t3.2.2.2.2.1 t3.2.2.2.2.2.1 t3.2.2.2.2.2.2.1 t3.2.2.2.2.2.2.2.1 t3.2.2.2.2.2.2.2.2.1 t3.2.2.2.2.2.2.2.2.2
 bif t5 then
 let t6:=EH BA B9 B8 B7 B6 B5 B4 B3 B2 AZ t3.1 t3.2.1 t3.2.2.1 t3.2.2.2.1 t3.2.2.2.2.1 t3.2.2.2.2.2.1 t3.2.2.2.2.2.2.1 t3.2.2.2.2.2.2.2.1 t3.2.2.2.2.2.2.2.2.1 t3.2.2.2.2.2.2.2.2.2
 bif t6 then
 let t7:=EK A2 A3 A8 A7 A6 A9 AB AA AD AC t3.1 t3.2.1 t3.2.2.1 t3.2.2.2.1 t3.2.2.2.2.1 t3.2.2.2.2.2.1 t3.2.2.2.2.2.2.1 t3.2.2.2.2.2.2.2.1 t3.2.2.2.2.2.2.2.2.1 t3.2.2.2.2.2.2.2.2.2
 let t8:=AP 0 t7.1 t7.2.1 t7.2.2
 let t9:=EK BK BJ BI BH BG BF BE BD BC BB t3.1 t3.2.1 t3.2.2.1 t3.2.2.2.1 t3.2.2.2.2.1 t3.2.2.2.2.2.1 t3.2.2.2.2.2.2.1 t3.2.2.2.2.2.2.2.1 t3.2.2.2.2.2.2.2.2.1 t3.2.2.2.2.2.2.2.2.2
 let t10:=AP t8.2.2 t9.1 t9.2.1 t9.2.2
 let t11:=EK BA B9 B8 B7 B6 B5 B4 B3 B2 AZ t3.1 t3.2.1 t3.2.2.1 t3.2.2.2.1 t3.2.2.2.2.1 t3.2.2.2.2.2.1 t3.2.2.2.2.2.2.1 t3.2.2.2.2.2.2.2.1 t3.2.2.2.2.2.2.2.2.1 t3.2.2.2.2.2.2.2.2.2
 let t12:=AP t10.2.2 t11.1 t11.2.1 t11.2.2
 let t13:=C1 t12.2.2 t8.1 t8.2.1 t10.1 t10.2.1 t12.1 t12.2.1
 k (t13.1,t13.2.1,t13.2.2.1,t13.2.2.2.1,t13.2.2.2.2.1,t13.2.2.2.2.2.1,t13.2.2.2.2.2.2.1) else none else none else none else none else none
theorem Bm.run:xfn Tryz.prog ⟨[(27,Ba.sp C1),(28,De.sp GA G8),(29,Do.sp GD GB),(30,Aj.sp AP),(31,Bc.sp EK EH)],[],[]⟩ [] 60 Tryz.f8 [.agg ⟨.bool A2:: .string A3:: .bool A8:: .string A7:: .bool A6:: .string A9:: .bool AB:: .string AA:: .bool AD:: .string AC:: .bool BK:: .string BJ:: .bool BI:: .string BH:: .bool BG:: .string BF:: .bool BE:: .string BD:: .bool BC:: .string BB:: .bool BA:: .string B9:: .bool B8:: .string B7:: .bool B6:: .string B5:: .bool B4:: .string B3:: .bool B2:: .string AZ:: .bool CJ:: .string CI:: .bool CH:: .string CG:: .bool CF:: .string CE:: .bool CD:: .string CC:: .bool CB:: .string CA::[]⟩] []=Bm.K C1 GA G8 GD GB AP EK EH A2 A3 A8 A7 A6 A9 AB AA AD AC BK BJ BI BH BG BF BE BD BC BB BA B9 B8 B7 B6 B5 B4 B3 B2 AZ CJ CI CH CG CF CE CD CC CB CA (fun r=>some (.tuple ⟨[.agg ⟨[.int .i64 r.1,.int .i64 r.2.1,.int .i64 r.2.2.1,.int .i64 r.2.2.2.1,.int .i64 r.2.2.2.2.1,.int .i64 r.2.2.2.2.2.1]⟩,.int .i64 r.2.2.2.2.2.2]⟩,[])):=by kernel_rfl
noncomputable def Bm.o:Option (Int×Int×Int×Int×Int×Int×Int):=Bm.K Ba De De.pre Do Do.pre Aj Bc Bc.pre A2 A3 A8 A7 A6 A9 AB AA AD AC BK BJ BI BH BG BF BE BD BC BB BA B9 B8 B7 B6 B5 B4 B3 B2 AZ CJ CI CH CG CF CE CD CC CB CA some
noncomputable def Bm.pre:Bool:=(Bm.o A2 A3 A8 A7 A6 A9 AB AA AD AC BK BJ BI BH BG BF BE BD BC BB BA B9 B8 B7 B6 B5 B4 B3 B2 AZ CJ CI CH CG CF CE CD CC CB CA).isSome
noncomputable def Bm:Int×Int×Int×Int×Int×Int×Int:=(Bm.o A2 A3 A8 A7 A6 A9 AB AA AD AC BK BJ BI BH BG BF BE BD BC BB BA B9 B8 B7 B6 B5 B4 B3 B2 AZ CJ CI CH CG CF CE CD CC CB CA).getD default
theorem Bm.nat (k:Int×Int×Int×Int×Int×Int×Int→Option R):Bm.K C1 GA G8 GD GB AP EK EH A2 A3 A8 A7 A6 A9 AB AA AD AC BK BJ BI BH BG BF BE BD BC BB BA B9 B8 B7 B6 B5 B4 B3 B2 AZ CJ CI CH CG CF CE CD CC CB CA k=(Bm.K C1 GA G8 GD GB AP EK EH A2 A3 A8 A7 A6 A9 AB AA AD AC BK BJ BI BH BG BF BE BD BC BB BA B9 B8 B7 B6 B5 B4 B3 B2 AZ CJ CI CH CG CF CE CD CC CB CA some).bind k:=by
 simp only [Bm.K,bcond,Option.bind_some,Option.bind_none]
end
theorem Qp {x y z:Q} (ox:x.ok=true) (oy:y.ok=true) (oz:z.ok=true):Rep (qsq x y z) (sgm (wv x*wv x) (wv y*wv y) (wv z*wv z) (zi x.d*zi x.d) (zi y.d*zi y.d) (zi z.d*zi z.d)) ((zi x.d*zi x.d)*(zi y.d*zi y.d)*(zi z.d*zi z.d)):=
 (((Rep.self ox).mul (Rep.self ox) ox ox).add ((Rep.self oy).mul (Rep.self oy) oy oy) (Fy ox ox) (Fy oy oy)).add ((Rep.self oz).mul (Rep.self oz) oz oz) (JF (Fy ox ox) (Fy oy oy)) (Fy oz oz)
theorem S8 {x:Q} (h:x.nul=false):Sg.s (wv x)≠0:=fun h0=>by
 have:=sgZ _ h0
 have e0:x.c0=0:=congrArg (fun w:Z6=>w.p.a) this
 have e1:x.c1=0:=congrArg (fun w:Z6=>w.p.b) this
 have e2:x.c2=0:=congrArg (fun w:Z6=>w.q.a) this
 have e3:x.c3=0:=congrArg (fun w:Z6=>w.q.b) this
 simp [Q.nul,e0,e1,e2,e3] at h
theorem Qh {x y z:Q} (ox:x.ok=true) (oy:y.ok=true) (oz:z.ok=true) (h:(x.nul&&(y.nul&&z.nul))=false):Sg.s (sgm (wv x*wv x) (wv y*wv y) (wv z*wv z) (zi x.d*zi x.d) (zi y.d*zi y.d) (zi z.d*zi z.d))=1:=by
 have dx:=H8 ox
 have dy:=H8 oy
 have dz:=H8 oz
 have m:∀ {a b:Z6},Sg.s a=1→Sg.s b=1→Sg.s (a*b)=1:=fun ha hb=>by rw [sgM,ha,hb]; rfl
 have n:∀ {a b:Z6},Sg.s b=1→Sg.s (a*b)=Sg.s a:=fun hb=>by rw [sgM,hb,Int.mul_one]
 have ex:=m (m dx dx) (m dy dy)
 have ey:=m (m dy dy) (m dz dz)
 have ez:=m (m dx dx) (m dz dz)
 rw [O6]
 have qx:=GW (wv x)
 have qy:=GW (wv y)
 have qz:=GW (wv z)
 have h1:0≤Sg.s (wv x*wv x*(zi y.d*zi y.d*(zi z.d*zi z.d))+wv y*wv y*(zi x.d*zi x.d*(zi z.d*zi z.d))):=Gc (by rw [n ey]; exact qx) (by rw [n ez]; exact qy)
 cases hx:x.nul with
 |false=>exact Hr h1 (by rw [n ex]; exact qz) (.inl (Hr (by rw [n ey]; exact qx) (by rw [n ez]; exact qy) (.inl (by rw [n ey]; exact s_sq (S8 hx)))))
 | true=>
  cases hy:y.nul with
  |false=>exact Hr h1 (by rw [n ex]; exact qz) (.inl (Hr (by rw [n ey]; exact qx) (by rw [n ez]; exact qy) (.inr (by rw [n ez]; exact s_sq (S8 hy)))))
  | true=>
   rw [hx,hy,Bool.true_and,Bool.true_and] at h
   exact Hr h1 (by rw [n ex]; exact qz) (.inr (by rw [n ex]; exact s_sq (S8 h)))
def sgb (s:Bool) (n h:Int):I2:=(bif s then -h else n,bif s then -n else h)
theorem Q0 {x y z:Q} (ox:x.ok=true) (oy:y.ok=true) (oz:z.ok=true) (hn:(x.nul&&(y.nul&&z.nul))=false):
  ∃ n0 h0 n1 h1 n2 h2:Int,(0≤n0∧n0≤h0∧h0≤16777216)∧(0≤n1∧n1≤h1∧h1≤16777216)∧(0≤n2∧n2≤h2∧h2≤16777216)∧n0*n0+n1*n1+n2*n2≤KK∧KK≤h0*h0+h1*h1+h2*h2∧
   dquot x (qsq x y z)=((sgb (decide (x.sg<0)) n0 h0).1,(sgb (decide (x.sg<0)) n0 h0).2,0)∧dquot y (qsq x y z)=((sgb (decide (y.sg<0)) n1 h1).1,(sgb (decide (y.sg<0)) n1 h1).2,0)∧dquot z (qsq x y z)=((sgb (decide (z.sg<0)) n2 h2).1,(sgb (decide (z.sg<0)) n2 h2).2,0):=by
 have rs:=Qp ox oy oz
 have os:=Sc ox oy oz
 have hσ:=Qh ox oy oz hn
 have m:∀ {a b:Z6},Sg.s a=1→Sg.s b=1→Sg.s (a*b)=1:=fun ha hb=>by rw [sgM,ha,hb]; rfl
 have dx:=m (H8 ox) (H8 ox)
 have dy:=m (H8 oy) (H8 oy)
 have dz:=m (H8 oz) (H8 oz)
 have hτ:=m (m dx dy) dz
 have e:=O6 (wv x*wv x) (wv y*wv y) (wv z*wv z) (zi x.d*zi x.d) (zi y.d*zi y.d) (zi z.d*zi z.d)
 have nn:∀ {a b:Z6},Sg.s b=1→0≤Sg.s (a*a*b):=fun {a b} hb=>by rw [sgM,hb,Int.mul_one]; exact GW a
 have bx:=I1 (P:=wv x*wv x) (R:=zi x.d*zi x.d) (E:=zi y.d*zi y.d*(zi z.d*zi z.d)) (σ:=sgm (wv x*wv x) (wv y*wv y) (wv z*wv z) (zi x.d*zi x.d) (zi y.d*zi y.d) (zi z.d*zi z.d)) (τ:=zi x.d*zi x.d*(zi y.d*zi y.d)*(zi z.d*zi z.d)) (Q:=wv y*wv y*(zi x.d*zi x.d*(zi z.d*zi z.d))+wv z*wv z*(zi x.d*zi x.d*(zi y.d*zi y.d))) (by ac_rfl) (by rw [e]; ac_rfl) (m dy dz) hτ (Gc (nn (m dx dz)) (nn (m dx dy)))
 have by':=I1 (P:=wv y*wv y) (R:=zi y.d*zi y.d) (E:=zi x.d*zi x.d*(zi z.d*zi z.d)) (σ:=sgm (wv x*wv x) (wv y*wv y) (wv z*wv z) (zi x.d*zi x.d) (zi y.d*zi y.d) (zi z.d*zi z.d)) (τ:=zi x.d*zi x.d*(zi y.d*zi y.d)*(zi z.d*zi z.d)) (Q:=wv x*wv x*(zi y.d*zi y.d*(zi z.d*zi z.d))+wv z*wv z*(zi x.d*zi x.d*(zi y.d*zi y.d))) (by ac_rfl) (by rw [e]; ac_rfl) (m dx dz) hτ (Gc (nn (m dy dz)) (nn (m dx dy)))
 have bz:=I1 (P:=wv z*wv z) (R:=zi z.d*zi z.d) (E:=zi x.d*zi x.d*(zi y.d*zi y.d)) (σ:=sgm (wv x*wv x) (wv y*wv y) (wv z*wv z) (zi x.d*zi x.d) (zi y.d*zi y.d) (zi z.d*zi z.d)) (τ:=zi x.d*zi x.d*(zi y.d*zi y.d)*(zi z.d*zi z.d)) (Q:=wv x*wv x*(zi y.d*zi y.d*(zi z.d*zi z.d))+wv y*wv y*(zi x.d*zi x.d*(zi z.d*zi z.d))) (by ac_rfl) (by rw [e]; ac_rfl) (m dx dy) hτ (Gc (nn (m dy dz)) (nn (m dx dz)))
 obtain ⟨n0,h0,a0,b0,c0,l0,u0,q0⟩:=I6 (Rep.self ox) rs ox os hσ hτ bx
 obtain ⟨n1,h1,a1,b1,c1,l1,u1,q1⟩:=I6 (Rep.self oy) rs oy os hσ hτ by'
 obtain ⟨n2,h2,a2,b2,c2,l2,u2,q2⟩:=I6 (Rep.self oz) rs oz os hσ hτ bz
 exact ⟨n0,h0,n1,h1,n2,h2,⟨a0,b0,c0⟩,⟨a1,b1,c1⟩,⟨a2,b2,c2⟩,sum_le dx dy dz hσ l0 l1 l2,sum_ge dx dy dz hσ u0 u1 u2,q0,q1,q2⟩
theorem Bm.os {k:Nat} {x y z q:Q} (hx:x.Bd k) (hy:y.Bd k) (hz:z.Bd k) (hq:q.Bd k) (hk:k≤1000) (ox:x.ok=true) (oy:y.ok=true) (oz:z.ok=true) (oq:q.ok=true):
  Bm.o (dI x.c0).1 (dI x.c0).2 (dI x.c1).1 (dI x.c1).2 (dI x.c2).1 (dI x.c2).2 (dI x.c3).1 (dI x.c3).2 (dI x.d).1 (dI x.d).2 (dI y.c0).1 (dI y.c0).2 (dI y.c1).1 (dI y.c1).2 (dI y.c2).1 (dI y.c2).2 (dI y.c3).1 (dI y.c3).2 (dI y.d).1 (dI y.d).2 (dI z.c0).1 (dI z.c0).2 (dI z.c1).1 (dI z.c1).2 (dI z.c2).1 (dI z.c2).2 (dI z.c3).1 (dI z.c3).2 (dI z.d).1 (dI z.d).2 (dI q.c0).1 (dI q.c0).2 (dI q.c1).1 (dI q.c1).2 (dI q.c2).1 (dI q.c2).2 (dI q.c3).1 (dI q.c3).2 (dI q.d).1 (dI q.d).2=some (bif x.nul&&(y.nul&&z.nul) then (0,0,0,0,0,0,1) else ((dquot x (qsq x y z)).1,(dquot x (qsq x y z)).2.1,(dquot y (qsq x y z)).1,(dquot y (qsq x y z)).2.1,(dquot z (qsq x y z)).1,(dquot z (qsq x y z)).2.1,0)):=by
 have hL:k≤LIM:=by unfold LIM; omega
 have sb:=qsq_bd hx hy hz ox oy oz
 have hb:∀ {w:Q},w.Bd k→4*k+14*(6*k+17)+200≤PRM:=fun _=>by unfold PRM; omega
 have qp:=fun {w:Q} (hw:w.Bd k)=>Bc.ps hw sb (by omega) (hb hw)
 have qe:=fun {w:Q} (hw:w.Bd k)=>Bc.es hw sb (by omega) (hb hw)
 simp only [Bm.o,Bm.K,De.ps hx hy hz hq hL ox oy oz oq,De.es hx hy hz hq hL ox oy oz oq,cond_true]
 cases hn:(x.nul&&(y.nul&&z.nul)) with
 |true=>rfl
 | false=>
  obtain ⟨n0,h0,n1,h1,n2,h2,_,_,_,_,_,q0,q1,q2⟩:=Q0 ox oy oz hn
  simp only [Bool.not_false,zN,cond_true,cond_false,Do.ps hx hy hz (by omega) ox oy oz,Do.es hx hy hz (by omega) ox oy oz,C5,qp hx,qp hy,qp hz,qe hx,qe hy,qe hz,Aj.eq,q0,q1,q2,kp0,Ba,Ba.K,id_eq,bne_self_eq_false]
theorem Bm.ps {k:Nat} {x y z q:Q} (hx:x.Bd k) (hy:y.Bd k) (hz:z.Bd k) (hq:q.Bd k) (hk:k≤1000) (ox:x.ok=true) (oy:y.ok=true) (oz:z.ok=true) (oq:q.ok=true):Bm.pre (dI x.c0).1 (dI x.c0).2 (dI x.c1).1 (dI x.c1).2 (dI x.c2).1 (dI x.c2).2 (dI x.c3).1 (dI x.c3).2 (dI x.d).1 (dI x.d).2 (dI y.c0).1 (dI y.c0).2 (dI y.c1).1 (dI y.c1).2 (dI y.c2).1 (dI y.c2).2 (dI y.c3).1 (dI y.c3).2 (dI y.d).1 (dI y.d).2 (dI z.c0).1 (dI z.c0).2 (dI z.c1).1 (dI z.c1).2 (dI z.c2).1 (dI z.c2).2 (dI z.c3).1 (dI z.c3).2 (dI z.d).1 (dI z.d).2 (dI q.c0).1 (dI q.c0).2 (dI q.c1).1 (dI q.c1).2 (dI q.c2).1 (dI q.c2).2 (dI q.c3).1 (dI q.c3).2 (dI q.d).1 (dI q.d).2=true:=Fk (Bm.os hx hy hz hq hk ox oy oz oq)
theorem Bm.es {k:Nat} {x y z q:Q} (hx:x.Bd k) (hy:y.Bd k) (hz:z.Bd k) (hq:q.Bd k) (hk:k≤1000) (ox:x.ok=true) (oy:y.ok=true) (oz:z.ok=true) (oq:q.ok=true):
 Bm (dI x.c0).1 (dI x.c0).2 (dI x.c1).1 (dI x.c1).2 (dI x.c2).1 (dI x.c2).2 (dI x.c3).1 (dI x.c3).2 (dI x.d).1 (dI x.d).2 (dI y.c0).1 (dI y.c0).2 (dI y.c1).1 (dI y.c1).2 (dI y.c2).1 (dI y.c2).2 (dI y.c3).1 (dI y.c3).2 (dI y.d).1 (dI y.d).2 (dI z.c0).1 (dI z.c0).2 (dI z.c1).1 (dI z.c1).2 (dI z.c2).1 (dI z.c2).2 (dI z.c3).1 (dI z.c3).2 (dI z.d).1 (dI z.d).2 (dI q.c0).1 (dI q.c0).2 (dI q.c1).1 (dI q.c1).2 (dI q.c2).1 (dI q.c2).2 (dI q.c3).1 (dI q.c3).2 (dI q.d).1 (dI q.d).2=(bif x.nul&&(y.nul&&z.nul) then (0,0,0,0,0,0,1) else ((dquot x (qsq x y z)).1,(dquot x (qsq x y z)).2.1,(dquot y (qsq x y z)).1,(dquot y (qsq x y z)).2.1,(dquot z (qsq x y z)).1,(dquot z (qsq x y z)).2.1,0)):=GT (Bm.os hx hy hz hq hk ox oy oz oq)
theorem PW {T:Int→Bool} :∀(d:Nat) (a:Int),T a=true→∃N,a≤N∧N≤a+(d:Int)∧T N=true∧(N=a+(d:Int)∨T (N+1)=false)
 |0,a,h=>⟨a,Int.le_refl _,by omega,h,.inl (by omega)⟩
 | d +1,a,h=>by
  cases h1:T (a+1) with
  | true=>
   obtain ⟨N,h2,h3,h4,h5⟩:=PW d (a+1) h1
   exact ⟨N,by omega,by omega,h4,h5.imp (fun h=>by omega) id⟩
  |false=>exact ⟨a,Int.le_refl _,by omega,h,.inr h1⟩
theorem z6_ldU (m a b:Z6):m*(a+b)=m*a+m*b:=by rw [Z6.mul_comm m (a+b),Z6.add_mul,Z6.mul_comm a m,Z6.mul_comm b m]
theorem z6_mnU (m a:Z6):m* -a= -(m*a):=by rw [Z6.mul_comm m (-a),Z6.neg_mul,Z6.mul_comm a m]
theorem cw_up {J:Int} (hJ:0<J) (k:Int) (A B:Z6):cw (J*k) A (zi J*B)=cw k A B:=by
 unfold cw
 have e:zi (J*k)*A+ -(zi J*B)=zi J*(zi k*A+ -B):=by rw [MU,z6_ldU,z6_mnU,Z6.mul_assoc]
 rw [e,sgM,s_zi,Kl.2 hJ,Int.one_mul]
theorem NE {A B:Z6} {j:Int} (hj:0<j) (hA:Sg.s A=1) {n h:Int} (h0:0≤n) (hn:n≤h) (hl:cw (n*n) A B≤0) (hu:0≤cw (h*h) A B):
  ∃N,n*j≤N∧N≤h*j∧cw (N*N) A (zi (j*j)*B)≤0∧0≤cw ((N+1)*(N+1)) A (zi (j*j)*B):=by
 have hJ:=Int.mul_pos hj hj
 have sq:∀k:Int,k*j*(k*j)=j*j*(k*k):=fun k=>by grind
 have l':cw (n*j*(n*j)) A (zi (j*j)*B)≤0:=by rw [sq,cw_up hJ]; exact hl
 have u':0≤cw (h*j*(h*j)) A (zi (j*j)*B):=by rw [sq,cw_up hJ]; exact hu
 have hle:n*j≤h*j:=Int.mul_le_mul_of_nonneg_right hn (by omega)
 have h00:0≤n*j:=Int.mul_nonneg h0 (by omega)
 obtain ⟨N,h1,h2,h3,h4⟩:=PW (T:=fun m=>decide (cw (m*m) A (zi (j*j)*B)≤0)) (h*j-n*j).toNat (n*j) (decide_eq_true l')
 generalize n*j=nj at*
 refine ⟨N,h1,by omega,of_decide_eq_true h3,?_⟩
 rcases h4 with h4|h4
 ·have e:N=h*j:=by omega
  rw [←e] at u'
  have e2:(N+1)*(N+1)=N*N+2*N+1:=by grind
  have:=TV hA (j:=N*N) (k:=(N+1)*(N+1)) (by omega) u'
  omega
 ·have:=of_decide_eq_false h4
  omega
section
variable {P0 P1 P2 R0 R1 R2:Z6} (r0:Sg.s R0=1) (r1:Sg.s R1=1) (r2:Sg.s R2=1) (hσ:Sg.s (sgm P0 P1 P2 R0 R1 R2)=1)
include r0 r1 r2 hσ
theorem Qa (k a b c:Int):Sg.s ((zi a+zi b+zi c+ -zi k)*(sgm P0 P1 P2 R0 R1 R2*(R0*R1*R2)))=sgn (a+b+c-k):=by
 rw [sgM,sgM,sgM,sgM,hσ,r0,r1,r2,←S6,←KL,←KL,←KL,s_zi]
 simp only [Int.mul_one]
 rfl
theorem sumK_le {k a b c:Int} (h0:cw a (R0*sgm P0 P1 P2 R0 R1 R2) (P0*(R0*R1*R2)*zi k)≤0) (h1:cw b (R1*sgm P0 P1 P2 R0 R1 R2) (P1*(R0*R1*R2)*zi k)≤0) (h2:cw c (R2*sgm P0 P1 P2 R0 R1 R2) (P2*(R0*R1*R2)*zi k)≤0):a+b+c≤k:=by
 have h:=Qa r0 r1 r2 hσ k a b c
 rw [←O2] at h
 have g:∀ {x E:Z6},Sg.s x≤0→Sg.s E=1→Sg.s (x*E)≤0:=fun hx hE=>by rw [sgM,hE]; omega
 have m:∀ {x y:Z6},Sg.s x=1→Sg.s y=1→Sg.s (x*y)=1:=fun hx hy=>by rw [sgM,hx,hy]; rfl
 have:=Hq (Hq (g h0 (m r1 r2)) (g h1 (m r0 r2))) (g h2 (m r0 r1))
 rw [h] at this
 rcases Int.lt_or_le k (a+b+c) with h3|h3
 ·have:=(Kl (n:=a+b+c-k)).2 (by omega); omega
 ·exact h3
theorem sumK_ge {k a b c:Int} (h0:0≤cw a (R0*sgm P0 P1 P2 R0 R1 R2) (P0*(R0*R1*R2)*zi k)) (h1:0≤cw b (R1*sgm P0 P1 P2 R0 R1 R2) (P1*(R0*R1*R2)*zi k)) (h2:0≤cw c (R2*sgm P0 P1 P2 R0 R1 R2) (P2*(R0*R1*R2)*zi k)):k≤a+b+c:=by
 have h:=Qa r0 r1 r2 hσ k a b c
 rw [←O2] at h
 have g:∀ {x E:Z6},0≤Sg.s x→Sg.s E=1→0≤Sg.s (x*E):=fun hx hE=>by rw [sgM,hE]; omega
 have m:∀ {x y:Z6},Sg.s x=1→Sg.s y=1→Sg.s (x*y)=1:=fun hx hy=>by rw [sgM,hx,hy]; rfl
 have:=Gc (Gc (g h0 (m r1 r2)) (g h1 (m r0 r2))) (g h2 (m r0 r1))
 rw [h] at this
 rcases Int.lt_or_le (a+b+c) k with h3|h3
 ·have:=(Ou (n:=a+b+c-k)).2 (by omega); omega
 ·exact h3
end
def UNj (j:Int) (m:Bx):Prop:=∃P0 P1 P2:Int,Pt P0 j m.1∧Pt P1 j m.2.1∧Pt P2 j m.2.2∧P0*P0+P1*P1+P2*P2≤16777216*j*(16777216*j)∧16777216*j*(16777216*j)≤P0*P0+P1*P1+P2*P2+9*(16777216*j)
theorem JK (j:Int) (P τ:Z6):zi (j*j)*(P*τ*zi KK)=P*τ*zi (16777216*j*(16777216*j)):=by
 rw [show 16777216*j*(16777216*j)=j*j*KK by unfold KK; grind,MU (j*j) KK]; ac_rfl
theorem Pm {n h N j:Int} (s:Bool) (l:n*j≤N) (u:N≤h*j):Pt (bif s then -N else N) j (sgb s n h):=by
 cases s with
 |false=>exact ⟨l,u⟩
 |true=>exact ⟨by show -h*j≤ -N; rw [Int.neg_mul]; omega,by show -N≤ -n*j; rw [Int.neg_mul]; omega⟩
theorem Mg {p s M:Int} (hM:0≤M) (h:p*p≤s) (hs:s≤M*M): -M≤p∧p≤M:=by
 have e:(M+1)*(M+1)=M*M+2*M+1:=by grind
 constructor
 ·rcases Int.lt_or_le p (-M) with h1|h1
  ·have:=Ic (x:=M+1) (y:= -p) (by omega) (by omega)
   rw [Int.neg_mul_neg] at this; omega
  ·exact h1
 ·rcases Int.lt_or_le M p with h1|h1
  ·have:=Ic (x:=M+1) (y:=p) (by omega) (by omega)
   omega
  ·exact h1
theorem Pz {j:Int} (hj:0<j) {x y z:Q} (ox:x.ok=true) (oy:y.ok=true) (oz:z.ok=true) (hn:(x.nul&&(y.nul&&z.nul))=false):
  UNj j (((dquot x (qsq x y z)).1,(dquot x (qsq x y z)).2.1),((dquot y (qsq x y z)).1,(dquot y (qsq x y z)).2.1),((dquot z (qsq x y z)).1,(dquot z (qsq x y z)).2.1)):=by
 have rs:=Qp ox oy oz
 have os:=Sc ox oy oz
 have hσ:=Qh ox oy oz hn
 have m:∀ {a b:Z6},Sg.s a=1→Sg.s b=1→Sg.s (a*b)=1:=fun ha hb=>by rw [sgM,ha,hb]; rfl
 have dx:=m (H8 ox) (H8 ox)
 have dy:=m (H8 oy) (H8 oy)
 have dz:=m (H8 oz) (H8 oz)
 have hτ:=m (m dx dy) dz
 have e:=O6 (wv x*wv x) (wv y*wv y) (wv z*wv z) (zi x.d*zi x.d) (zi y.d*zi y.d) (zi z.d*zi z.d)
 have nn:∀ {a b:Z6},Sg.s b=1→0≤Sg.s (a*a*b):=fun {a b} hb=>by rw [sgM,hb,Int.mul_one]; exact GW a
 have bx:=I1 (P:=wv x*wv x) (R:=zi x.d*zi x.d) (E:=zi y.d*zi y.d*(zi z.d*zi z.d)) (σ:=sgm (wv x*wv x) (wv y*wv y) (wv z*wv z) (zi x.d*zi x.d) (zi y.d*zi y.d) (zi z.d*zi z.d)) (τ:=zi x.d*zi x.d*(zi y.d*zi y.d)*(zi z.d*zi z.d)) (Q:=wv y*wv y*(zi x.d*zi x.d*(zi z.d*zi z.d))+wv z*wv z*(zi x.d*zi x.d*(zi y.d*zi y.d))) (by ac_rfl) (by rw [e]; ac_rfl) (m dy dz) hτ (Gc (nn (m dx dz)) (nn (m dx dy)))
 have by':=I1 (P:=wv y*wv y) (R:=zi y.d*zi y.d) (E:=zi x.d*zi x.d*(zi z.d*zi z.d)) (σ:=sgm (wv x*wv x) (wv y*wv y) (wv z*wv z) (zi x.d*zi x.d) (zi y.d*zi y.d) (zi z.d*zi z.d)) (τ:=zi x.d*zi x.d*(zi y.d*zi y.d)*(zi z.d*zi z.d)) (Q:=wv x*wv x*(zi y.d*zi y.d*(zi z.d*zi z.d))+wv z*wv z*(zi x.d*zi x.d*(zi y.d*zi y.d))) (by ac_rfl) (by rw [e]; ac_rfl) (m dx dz) hτ (Gc (nn (m dy dz)) (nn (m dx dy)))
 have bz:=I1 (P:=wv z*wv z) (R:=zi z.d*zi z.d) (E:=zi x.d*zi x.d*(zi y.d*zi y.d)) (σ:=sgm (wv x*wv x) (wv y*wv y) (wv z*wv z) (zi x.d*zi x.d) (zi y.d*zi y.d) (zi z.d*zi z.d)) (τ:=zi x.d*zi x.d*(zi y.d*zi y.d)*(zi z.d*zi z.d)) (Q:=wv x*wv x*(zi y.d*zi y.d*(zi z.d*zi z.d))+wv y*wv y*(zi x.d*zi x.d*(zi z.d*zi z.d))) (by ac_rfl) (by rw [e]; ac_rfl) (m dx dy) hτ (Gc (nn (m dy dz)) (nn (m dx dz)))
 obtain ⟨n0,h0,a0,b0,c0,l0,u0,q0⟩:=I6 (Rep.self ox) rs ox os hσ hτ bx
 obtain ⟨n1,h1,a1,b1,c1,l1,u1,q1⟩:=I6 (Rep.self oy) rs oy os hσ hτ by'
 obtain ⟨n2,h2,a2,b2,c2,l2,u2,q2⟩:=I6 (Rep.self oz) rs oz os hσ hτ bz
 obtain ⟨N0,f0,g0,i0,j0⟩:=NE hj (m dx hσ) a0 b0 l0 u0
 obtain ⟨N1,f1,g1,i1,j1⟩:=NE hj (m dy hσ) a1 b1 l1 u1
 obtain ⟨N2,f2,g2,i2,j2⟩:=NE hj (m dz hσ) a2 b2 l2 u2
 rw [JK] at i0 j0 i1 j1 i2 j2
 have sl:=sumK_le dx dy dz hσ i0 i1 i2
 have su:=sumK_ge dx dy dz hσ j0 j1 j2
 have s0:=HZ N0
 have s1:=HZ N1
 have s2:=HZ N2
 obtain ⟨M,eM⟩:∃M,M=16777216*j:=⟨_,rfl⟩
 rw [←eM] at sl su
 have hM:0≤M:=by omega
 have r0:=Mg hM (p:=N0) (s:=N0*N0+N1*N1+N2*N2) (by omega) sl
 have r1:=Mg hM (p:=N1) (s:=N0*N0+N1*N1+N2*N2) (by omega) sl
 have r2:=Mg hM (p:=N2) (s:=N0*N0+N1*N1+N2*N2) (by omega) sl
 have ex:∀k:Int,(k+1)*(k+1)=k*k+2*k+1:=fun k=>by grind
 rw [ex,ex,ex] at su
 have sg:∀(s:Bool) (k:Int),(bif s then -k else k)*(bif s then -k else k)=k*k:=fun s k=>by cases s; rfl; exact Int.neg_mul_neg k k
 refine ⟨bif decide (x.sg<0) then -N0 else N0,bif decide (y.sg<0) then -N1 else N1,bif decide (z.sg<0) then -N2 else N2,?_,?_,?_,?_,?_⟩
 ·rw [q0]; exact Pm _ f0 g0
 ·rw [q1]; exact Pm _ f1 g1
 ·rw [q2]; exact Pm _ f2 g2
 ·rw [sg,sg,sg,←eM]; exact sl
 ·rw [sg,sg,sg,←eM]; omega
theorem Bm.ok:SOK Tryz.prog 8 (Bm.sp Bm Bm.pre):=by
 refine Cu (E:=⟨[(27,Ba.sp Ba),(28,De.sp De De.pre),(29,Do.sp Do Do.pre),(30,Aj.sp Aj),(31,Bc.sp Bc Bc.pre)],[],[]⟩) (L:=[]) ⟨(Aa Ba.ok (Aa De.ok (Aa Do.ok (Aa Aj.ok (Aa Bc.ok Ac))))),Ai,Ad,Ah⟩ 60 Tryz.func8 (by decide) rfl Bv fun vs bl v bl' h=> ?_
 unfold Bm.sp at h
 split at h
 ·rename_i A2 A3 A8 A7 A6 A9 AB AA AD AC BK BJ BI BH BG BF BE BD BC BB BA B9 B8 B7 B6 B5 B4 B3 B2 AZ CJ CI CH CG CF CE CD CC CB CA
  simp only [zS,zP] at h
  obtain ⟨hp,rfl,rfl⟩:=h
  have hr:=Bm.run Ba De De.pre Do Do.pre Aj Bc Bc.pre A2 A3 A8 A7 A6 A9 AB AA AD AC BK BJ BI BH BG BF BE BD BC BB BA B9 B8 B7 B6 B5 B4 B3 B2 AZ CJ CI CH CG CF CE CD CC CB CA
  rw [Bm.nat] at hr
  obtain ⟨r,h2⟩:=Option.isSome_iff_exists.1 (hp:(Bm.o A2 A3 A8 A7 A6 A9 AB AA AD AC BK BJ BI BH BG BF BE BD BC BB BA B9 B8 B7 B6 B5 B4 B3 B2 AZ CJ CI CH CG CF CE CD CC CB CA).isSome=true)
  have h3:Bm A2 A3 A8 A7 A6 A9 AB AA AD AC BK BJ BI BH BG BF BE BD BC BB BA B9 B8 B7 B6 B5 B4 B3 B2 AZ CJ CI CH CG CF CE CD CC CB CA=r:=by unfold Bm; rw [h2]; rfl
  have h4:Bm.K Ba De De.pre Do Do.pre Aj Bc Bc.pre A2 A3 A8 A7 A6 A9 AB AA AD AC BK BJ BI BH BG BF BE BD BC BB BA B9 B8 B7 B6 B5 B4 B3 B2 AZ CJ CI CH CG CF CE CD CC CB CA some=some r:=h2
  rw [h4,Option.bind_some] at hr
  rw [h3]
  exact ⟨hr,by simp [okV,Nat.blt],clo_spec 8 _ (by kernel_rfl),Ay (by kernel_rfl)⟩
 ·cases h
section
variable {R:Type} (AQ:Int→Int→Int→Int→(Int×Int×Int)) (AU:Int→Int→Int→Int→Int→(Int×Int×Int)) (AR:Int→Int→Int→Int→Int→(Int×Int×Int)) (AS:Int→Int→Int→Int→Int→(Int×Int×Int)) (AT:Int→Int→Int→Int→Int→(Int×Int×Int)) (s0_0:Int) (A5:Int) (A4:Int) (AJ:Int) (AK:Int)
def Cz.K {R:Type} (AQ:Int→Int→Int→Int→(Int×Int×Int)) (AU:Int→Int→Int→Int→Int→(Int×Int×Int)) (AR:Int→Int→Int→Int→Int→(Int×Int×Int)) (AS:Int→Int→Int→Int→Int→(Int×Int×Int)) (AT:Int→Int→Int→Int→Int→(Int×Int×Int)) (s0_0:Int) (A5:Int) (A4:Int) (AJ:Int) (AK:Int) (k:Int×Int×Int→R):R:=
 let t0:=AR s0_0 A5 A4 AJ AK
 k (t0.1,t0.2.1,t0.2.2)
theorem Cz.run:xfn Tryz.prog ⟨[(46,Au.sp AQ),(65,Ev.sp AU AR AS AT)],[],[]⟩ [] 60 Tryz.f26 [.pointer (some ⟨0,0,none⟩),.agg ⟨[.int .i64 A5,.int .i64 A4]⟩,.agg ⟨[.int .i64 AJ,.int .i64 AK]⟩] [.cs [.int .i64 s0_0] 61]=Cz.K AQ AU AR AS AT s0_0 A5 A4 AJ AK (fun r=>some (.agg ⟨[.int .i64 r.1,.int .i64 r.2.1]⟩,[.cs [.int .i64 r.2.2] 61])):=by kernel_rfl
def Cz:Int×Int×Int:=Cz.K Au Ao Al Am An s0_0 A5 A4 AJ AK id
theorem Cz.nat (k:Int×Int×Int→R):Cz.K AQ AU AR AS AT s0_0 A5 A4 AJ AK k=k (Cz.K AQ AU AR AS AT s0_0 A5 A4 AJ AK id):=by
 simp only [Cz.K,acond k,id_eq]
theorem Cz.eq (s a b c d:Int):Cz s a b c d=st s a b (isub a b c d):=by
 simp only [Cz,Cz.K,id_eq,Al.eq]
end
theorem Cz.ok:SOK Tryz.prog 26 (Cz.sp Cz):=by
 refine Cu (E:=⟨[(46,Au.sp Au),(65,Ev.sp Ao Al Am An)],[],[]⟩) (L:=[]) ⟨(Aa Au.ok (Aa Ev.ok Ac)),Ai,Ad,Ah⟩ 60 Tryz.func26 (by decide) rfl Bv fun vs bl v bl' h=> ?_
 unfold Cz.sp at h
 split at h
 ·rename_i A5 A4 AJ AK s0_0
  simp only [zS,zP,true_and] at h
  obtain ⟨rfl,rfl⟩:=h
  refine ⟨?_,by simp [okV,Nat.blt],clo_spec 8 _ (by kernel_rfl),Ay (by kernel_rfl)⟩
  refine (Cz.run Au Ao Al Am An s0_0 A5 A4 AJ AK).trans ?_
  refine (Cz.nat Au Ao Al Am An s0_0 A5 A4 AJ AK _).trans ?_
  kernel_rfl
 ·cases h
end Go.Proofs.YtphlckkbihmlnaaGreatDoor.G
end
