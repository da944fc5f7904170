/- A part of what the law's proof leans on. PACKED BY pack.py of this repo. -/
import Derived.Test.YtphlckkbihmlnaaGreatDoorT13
set_option linter.unusedVariables false
set_option linter.unusedSimpArgs false
set_option linter.defProp false
set_option linter.unusedSectionVars false
section
namespace Go.Proofs.YtphlckkbihmlnaaGreatDoor.G
set_option maxRecDepth 100000
open Go Go.Proofs Go.RowKit RX
section
variable {R:Type} (CM:TF5 (Bool)) (CL:TF5 Bool) (A2:Bool) (A3:ByteArray) (A8:Bool) (A7:ByteArray) (A6:Bool) (A9:ByteArray) (AB:Bool) (AA:ByteArray) (AD:Bool) (AC:ByteArray) (BI:Bool) (BH:ByteArray) (BG:Bool) (BF:ByteArray) (BE:Bool) (BD:ByteArray) (BC:Bool) (BB:ByteArray) (BA:Bool) (B9:ByteArray) (B8:Bool) (B7:ByteArray) (B6:Bool) (B5:ByteArray) (B4:Bool) (B3:ByteArray) (B2:Bool) (AZ:ByteArray) (AY:Bool) (AX:ByteArray)
noncomputable def Bk.K (k:(Bool)→Option R):Option R:=
 let t0:=CL A2 A3 A8 A7 A6 A9 AB AA AD AC
 bif t0 then
 let t1:=CM A2 A3 A8 A7 A6 A9 AB AA AD AC
 bif t1 then
 let t2:=CL BI BH BG BF BE BD BC BB BA B9
 bif t2 then
 let t3:=CM BI BH BG BF BE BD BC BB BA B9
 bif t3 then
 let t4:=CL B8 B7 B6 B5 B4 B3 B2 AZ AY AX
 bif t4 then
 let t5:=CM B8 B7 B6 B5 B4 B3 B2 AZ AY AX
 k (t5) else none else k (false) else none else k (false) else none
theorem Bk.run:xfn Tryz.prog ⟨[(58,Af.sp CM CL)],[],[]⟩ [] 60 Tryz.f59 [.agg ⟨[.bool A2,.string A3,.bool A8,.string A7,.bool A6,.string A9,.bool AB,.string AA,.bool AD,.string AC,.bool BI,.string BH,.bool BG,.string BF,.bool BE,.string BD,.bool BC,.string BB,.bool BA,.string B9,.bool B8,.string B7,.bool B6,.string B5,.bool B4,.string B3,.bool B2,.string AZ,.bool AY,.string AX]⟩] []=Bk.K CM CL A2 A3 A8 A7 A6 A9 AB AA AD AC BI BH BG BF BE BD BC BB BA B9 B8 B7 B6 B5 B4 B3 B2 AZ AY AX (fun r=>some (.bool r,[])):=by kernel_rfl
noncomputable def Bk.o:Option (Bool):=Bk.K Af Af.pre A2 A3 A8 A7 A6 A9 AB AA AD AC BI BH BG BF BE BD BC BB BA B9 B8 B7 B6 B5 B4 B3 B2 AZ AY AX some
noncomputable def Bk.pre:Bool:=(Bk.o A2 A3 A8 A7 A6 A9 AB AA AD AC BI BH BG BF BE BD BC BB BA B9 B8 B7 B6 B5 B4 B3 B2 AZ AY AX).isSome
noncomputable def Bk:Bool:=(Bk.o A2 A3 A8 A7 A6 A9 AB AA AD AC BI BH BG BF BE BD BC BB BA B9 B8 B7 B6 B5 B4 B3 B2 AZ AY AX).getD default
theorem Bk.nat (k:(Bool)→Option R):Bk.K CM CL A2 A3 A8 A7 A6 A9 AB AA AD AC BI BH BG BF BE BD BC BB BA B9 B8 B7 B6 B5 B4 B3 B2 AZ AY AX k=(Bk.K CM CL A2 A3 A8 A7 A6 A9 AB AA AD AC BI BH BG BF BE BD BC BB BA B9 B8 B7 B6 B5 B4 B3 B2 AZ AY AX some).bind k:=by
 simp only [Bk.K,bcond,Option.bind_some,Option.bind_none]
end
structure Q.Le (m:Nat) (q:Q):Prop where
 c0:q.c0.natAbs≤m
 c1:q.c1.natAbs≤m
 c2:q.c2.natAbs≤m
 c3:q.c3.natAbs≤m
 d:q.d.natAbs≤m
theorem Q.Le.mono {m n:Nat} {q:Q} (h:q.Le m) (hm:m≤n):q.Le n:=⟨Nat.le_trans h.c0 hm,Nat.le_trans h.c1 hm,Nat.le_trans h.c2 hm,Nat.le_trans h.c3 hm,Nat.le_trans h.d hm⟩
theorem n5_gg (c0 c1 c2 c3 d:Int):gI (gI (gI (gI (gI 0 c0) c1) c2) c3) d=gg c0 c1 c2 c3 d:=by
 obtain ⟨d4,d0,d1,d2,d3⟩:=Nu c0 c1 c2 c3 d
 have h1:=IU (IU (IU (IU (IU (Int.dvd_zero _) d0) d1) d2) d3) d4
 have e4:=Md (gI (gI (gI (gI 0 c0) c1) c2) c3) d
 have e3:=Md (gI (gI (gI 0 c0) c1) c2) c3
 have e2:=Md (gI (gI 0 c0) c1) c2
 have e1:=Md (gI 0 c0) c1
 have e0:=Md 0 c0
 have h2:=dvd_gg e4.2 (Int.dvd_trans e4.1 (Int.dvd_trans e3.1 (Int.dvd_trans e2.1 (Int.dvd_trans e1.1 e0.2)))) (Int.dvd_trans e4.1 (Int.dvd_trans e3.1 (Int.dvd_trans e2.1 e1.2))) (Int.dvd_trans e4.1 (Int.dvd_trans e3.1 e2.2)) (Int.dvd_trans e4.1 e3.2)
 have h3:=LG c0 c1 c2 c3 d
 have h4:=I5 (gI (gI (gI (gI 0 c0) c1) c2) c3) d
 have h5:=Nat.dvd_antisymm (Int.natAbs_dvd_natAbs.2 h2) (Int.natAbs_dvd_natAbs.2 h1)
 omega
theorem KG {c:Int} (h:c.natAbs≤16777215):wdok (dI c).1 (dI c).2=true:=by
 have e:p8 3=16777216:=by decide
 have:(dI c).2.size≤3:=IN (k:=3) (by unfold Bd; omega)
 simp [wdok,Nat.ble_eq_true_of_le this]
theorem RV {q:Q} (h:q.Le 16777215):Eo (dI q.c0).1 (dI q.c0).2 (dI q.c1).1 (dI q.c1).2 (dI q.c2).1 (dI q.c2).2 (dI q.c3).1 (dI q.c3).2 (dI q.d).1 (dI q.d).2=(q.c0,q.c1,q.c2,q.c3,q.d,true):=by
 simp only [Eo,KG h.c0,KG h.c1,KG h.c2,KG h.c3,KG h.d,Hq,Bool.and_self,cond_true]
theorem KF {x:Int} (h:x.natAbs≤4611686018427387904):wgok x=true:=by simp only [wgok,Bool.and_eq_true,decide_eq_true_eq]; omega
theorem Qz {q:Q} (h:q.Le 4611686018427387904):Dw.pre q.c0 q.c1 q.c2 q.c3 q.d=true:=by
 simp only [Dw.pre,KF h.c0,KF h.c1,KF h.c2,KF h.c3,KF h.d,Bool.and_self]
theorem Ry (q:Q):Dw q.c0 q.c1 q.c2 q.c3 q.d=q.g:=n5_gg _ _ _ _ _
theorem Af.os {q:Q} (h:q.Le 16777215):Af.o (dI q.c0).1 (dI q.c0).2 (dI q.c1).1 (dI q.c1).2 (dI q.c2).1 (dI q.c2).2 (dI q.c3).1 (dI q.c3).2 (dI q.d).1 (dI q.d).2=some q.ok:=by
 simp only [Af.o,Af.K,RV h,cond_true,Qz (h.mono (by decide)),Ry]
 unfold Q.ok
 by_cases p:0<q.d
 ·rw [decide_eq_true (show q.d>0 from p),cond_true,Bool.true_and]
 ·rw [decide_eq_false (show ¬q.d>0 from p),cond_false,Bool.false_and]
theorem Af.ps {q:Q} (h:q.Le 16777215):Af.pre (dI q.c0).1 (dI q.c0).2 (dI q.c1).1 (dI q.c1).2 (dI q.c2).1 (dI q.c2).2 (dI q.c3).1 (dI q.c3).2 (dI q.d).1 (dI q.d).2=true:=Ey (Af.os h)
theorem Af.es {q:Q} (h:q.Le 16777215):Af (dI q.c0).1 (dI q.c0).2 (dI q.c1).1 (dI q.c1).2 (dI q.c2).1 (dI q.c2).2 (dI q.c3).1 (dI q.c3).2 (dI q.d).1 (dI q.d).2=q.ok:=Fq (Af.os h)
theorem Bk.os {x y z:Q} (hx:x.Le 16777215) (hy:y.Le 16777215) (hz:z.Le 16777215):Bk.o (dI x.c0).1 (dI x.c0).2 (dI x.c1).1 (dI x.c1).2 (dI x.c2).1 (dI x.c2).2 (dI x.c3).1 (dI x.c3).2 (dI x.d).1 (dI x.d).2 (dI y.c0).1 (dI y.c0).2 (dI y.c1).1 (dI y.c1).2 (dI y.c2).1 (dI y.c2).2 (dI y.c3).1 (dI y.c3).2 (dI y.d).1 (dI y.d).2 (dI z.c0).1 (dI z.c0).2 (dI z.c1).1 (dI z.c1).2 (dI z.c2).1 (dI z.c2).2 (dI z.c3).1 (dI z.c3).2 (dI z.d).1 (dI z.d).2=some (x.ok&&(y.ok&&z.ok)):=by
 simp only [Bk.o,Bk.K,Af.ps hx,Af.es hx,Af.ps hy,Af.es hy,Af.ps hz,Af.es hz,cond_true]
 cases x.ok<;>cases y.ok<;>rfl
theorem Bk.ps {x y z:Q} (hx:x.Le 16777215) (hy:y.Le 16777215) (hz:z.Le 16777215):Bk.pre (dI x.c0).1 (dI x.c0).2 (dI x.c1).1 (dI x.c1).2 (dI x.c2).1 (dI x.c2).2 (dI x.c3).1 (dI x.c3).2 (dI x.d).1 (dI x.d).2 (dI y.c0).1 (dI y.c0).2 (dI y.c1).1 (dI y.c1).2 (dI y.c2).1 (dI y.c2).2 (dI y.c3).1 (dI y.c3).2 (dI y.d).1 (dI y.d).2 (dI z.c0).1 (dI z.c0).2 (dI z.c1).1 (dI z.c1).2 (dI z.c2).1 (dI z.c2).2 (dI z.c3).1 (dI z.c3).2 (dI z.d).1 (dI z.d).2=true:=Ey (Bk.os hx hy hz)
theorem Bk.es {x y z:Q} (hx:x.Le 16777215) (hy:y.Le 16777215) (hz:z.Le 16777215):Bk (dI x.c0).1 (dI x.c0).2 (dI x.c1).1 (dI x.c1).2 (dI x.c2).1 (dI x.c2).2 (dI x.c3).1 (dI x.c3).2 (dI x.d).1 (dI x.d).2 (dI y.c0).1 (dI y.c0).2 (dI y.c1).1 (dI y.c1).2 (dI y.c2).1 (dI y.c2).2 (dI y.c3).1 (dI y.c3).2 (dI y.d).1 (dI y.d).2 (dI z.c0).1 (dI z.c0).2 (dI z.c1).1 (dI z.c1).2 (dI z.c2).1 (dI z.c2).2 (dI z.c3).1 (dI z.c3).2 (dI z.d).1 (dI z.d).2=(x.ok&&(y.ok&&z.ok)):=Fq (Bk.os hx hy hz)
theorem Bk.ok:SOK Tryz.prog 59 (Bk.sp Bk Bk.pre):=by
 refine Cq (E:=⟨[(58,Af.sp Af Af.pre)],[],[]⟩) (L:=[]) ⟨(Aa Af.ok Ac),Ai,Ad,Ah⟩ 60 Tryz.func59 (by decide) rfl Bs fun vs bl v bl' h=> ?_
 unfold Bk.sp at h
 split at h
 ·rename_i A2 A3 A8 A7 A6 A9 AB AA AD AC BI BH BG BF BE BD BC BB BA B9 B8 B7 B6 B5 B4 B3 B2 AZ AY AX
  simp only [Option.some.injEq,Prod.mk.injEq] at h
  obtain ⟨hp,rfl,rfl⟩:=h
  have hr:=Bk.run Af Af.pre A2 A3 A8 A7 A6 A9 AB AA AD AC BI BH BG BF BE BD BC BB BA B9 B8 B7 B6 B5 B4 B3 B2 AZ AY AX
  rw [Bk.nat] at hr
  obtain ⟨r,h2⟩:=Option.isSome_iff_exists.1 (hp:(Bk.o A2 A3 A8 A7 A6 A9 AB AA AD AC BI BH BG BF BE BD BC BB BA B9 B8 B7 B6 B5 B4 B3 B2 AZ AY AX).isSome=true)
  have h3:Bk A2 A3 A8 A7 A6 A9 AB AA AD AC BI BH BG BF BE BD BC BB BA B9 B8 B7 B6 B5 B4 B3 B2 AZ AY AX=r:=by unfold Bk; rw [h2]; rfl
  have h4:Bk.K Af Af.pre A2 A3 A8 A7 A6 A9 AB AA AD AC BI BH BG BF BE BD BC BB BA B9 B8 B7 B6 B5 B4 B3 B2 AZ AY AX some=some r:=h2
  rw [h4,Option.bind_some] at hr
  rw [h3]
  exact ⟨hr,by simp [okV,Nat.blt],clo_spec 8 _ (by kernel_rfl),As (by kernel_rfl)⟩
 ·cases h
section
variable {R:Type} (CZ:Int→(Bool×ByteArray)) (CY:Int→Bool) (a0:Int)
noncomputable def Ca.K (k:TY5→Option R):Option R:=
 let t0:=CY a0
 bif t0 then
 let t1:=CY 1
 bif t1 then
 let t2:=CZ a0
 let t3:=CZ 1
 k (t2.1,t2.2,false,{data:= #[]},false,{data:= #[]},false,{data:= #[]},t3.1,t3.2) else none else none
theorem Ca.run:xfn Tryz.prog ⟨[(55,Bv.sp CZ CY)],[],[]⟩ [] 60 Tryz.f116 [.int .i64 a0] []=Ca.K CZ CY a0 (fun r=>some (.agg ⟨[.bool r.1,.string r.2.1,.bool r.2.2.1,.string r.2.2.2.1,.bool r.2.2.2.2.1,.string r.2.2.2.2.2.1,.bool r.2.2.2.2.2.2.1,.string r.2.2.2.2.2.2.2.1,.bool r.2.2.2.2.2.2.2.2.1,.string r.2.2.2.2.2.2.2.2.2]⟩,[])):=by kernel_rfl
noncomputable def Ca.o (a0:Int):Option (TY5):=Ca.K Bv Bv.pre a0 some
noncomputable def Ca.pre (a0:Int):Bool:=(Ca.o a0).isSome
noncomputable def Ca (a0:Int):TY5:=(Ca.o a0).getD default
theorem Ca.nat (k:TY5→Option R):Ca.K CZ CY a0 k=(Ca.K CZ CY a0 some).bind k:=by
 simp only [Ca.K,bcond,Option.bind_some,Option.bind_none]
theorem Ca.os {n:Int} (h: -9223372036854775808≤n) (h':n≤9223372036854775807):Ca.o n=some (C5 (qof n)):=by
 have p:Bv.pre n=true:=by simp [Bv.pre,h,h']
 simp only [Ca.o,Ca.K,p,show Bv.pre 1=true from rfl,show Bv n=dI n from rfl,show Bv 1=dI 1 from rfl,cond_true,C5,qof,M0]
theorem Ca.ps {n:Int} (h: -9223372036854775808≤n) (h':n≤9223372036854775807):Ca.pre n=true:=Ey (Ca.os h h')
theorem Ca.es {n:Int} (h: -9223372036854775808≤n) (h':n≤9223372036854775807):Ca n=C5 (qof n):=Fq (Ca.os h h')
end
theorem Ca.ok:SOK Tryz.prog 116 (Ca.sp Ca Ca.pre):=by
 refine Cq (E:=⟨[(55,Bv.sp Bv Bv.pre)],[],[]⟩) (L:=[]) ⟨(Aa Bv.ok Ac),Ai,Ad,Ah⟩ 60 Tryz.func116 (by decide) rfl Bs fun vs bl v bl' h=> ?_
 unfold Ca.sp at h
 split at h
 ·rename_i a0
  simp only [Option.some.injEq,Prod.mk.injEq] at h
  obtain ⟨hp,rfl,rfl⟩:=h
  have hr:=Ca.run Bv Bv.pre a0
  rw [Ca.nat] at hr
  obtain ⟨r,h2⟩:=Option.isSome_iff_exists.1 (hp:(Ca.o a0).isSome=true)
  have h3:Ca a0=r:=by unfold Ca; rw [h2]; rfl
  have h4:Ca.K Bv Bv.pre a0 some=some r:=h2
  rw [h4,Option.bind_some] at hr
  rw [h3]
  exact ⟨hr,by simp [okV,Nat.blt],clo_spec 8 _ (by kernel_rfl),As (by kernel_rfl)⟩
 ·cases h
section
variable {R:Type} (EY:Int→(TY5)) (EX:Int→Bool) (a0:Int) (a1:Int) (a2:Int)
noncomputable def Bz.K (k:TY15→Option R):Option R:=
 let t0:=EX a0
 bif t0 then
 let t1:=EX a1
 bif t1 then
 let t2:=EX a2
 bif t2 then
 let t3:=EY a0
 let t4:=EY a1
 let t5:=EY a2
 k (t3.1,t3.2.1,t3.2.2.1,t3.2.2.2.1,t3.2.2.2.2.1,t3.2.2.2.2.2.1,t3.2.2.2.2.2.2.1,t3.2.2.2.2.2.2.2.1,t3.2.2.2.2.2.2.2.2.1,t3.2.2.2.2.2.2.2.2.2,t4.1,t4.2.1,t4.2.2.1,t4.2.2.2.1,t4.2.2.2.2.1,t4.2.2.2.2.2.1,t4.2.2.2.2.2.2.1,t4.2.2.2.2.2.2.2.1,t4.2.2.2.2.2.2.2.2.1,t4.2.2.2.2.2.2.2.2.2,t5.1,t5.2.1,t5.2.2.1,t5.2.2.2.1,t5.2.2.2.2.1,t5.2.2.2.2.2.1,t5.2.2.2.2.2.2.1,t5.2.2.2.2.2.2.2.1,t5.2.2.2.2.2.2.2.2.1,t5.2.2.2.2.2.2.2.2.2) else none else none else none
theorem Bz.run:xfn Tryz.prog ⟨[(116,Ca.sp EY EX)],[],[]⟩ [] 60 Tryz.f93 [.int .i64 a0,.int .i64 a1,.int .i64 a2] []=Bz.K EY EX a0 a1 a2 (fun r=>some (.agg ⟨[.bool r.1,.string r.2.1,.bool r.2.2.1,.string r.2.2.2.1,.bool r.2.2.2.2.1,.string r.2.2.2.2.2.1,.bool r.2.2.2.2.2.2.1,.string r.2.2.2.2.2.2.2.1,.bool r.2.2.2.2.2.2.2.2.1,.string r.2.2.2.2.2.2.2.2.2.1,.bool r.2.2.2.2.2.2.2.2.2.2.1,.string r.2.2.2.2.2.2.2.2.2.2.2.1,.bool r.2.2.2.2.2.2.2.2.2.2.2.2.1,.string r.2.2.2.2.2.2.2.2.2.2.2.2.2.1,.bool r.2.2.2.2.2.2.2.2.2.2.2.2.2.2.1,.string r.2.2.2.2.2.2.2.2.2.2.2.2.2.2.2.1,.bool r.2.2.2.2.2.2.2.2.2.2.2.2.2.2.2.2.1,.string r.2.2.2.2.2.2.2.2.2.2.2.2.2.2.2.2.2.1,.bool r.2.2.2.2.2.2.2.2.2.2.2.2.2.2.2.2.2.2.1,.string r.2.2.2.2.2.2.2.2.2.2.2.2.2.2.2.2.2.2.2.1,.bool r.2.2.2.2.2.2.2.2.2.2.2.2.2.2.2.2.2.2.2.2.1,.string r.2.2.2.2.2.2.2.2.2.2.2.2.2.2.2.2.2.2.2.2.2.1,.bool r.2.2.2.2.2.2.2.2.2.2.2.2.2.2.2.2.2.2.2.2.2.2.1,.string r.2.2.2.2.2.2.2.2.2.2.2.2.2.2.2.2.2.2.2.2.2.2.2.1,.bool r.2.2.2.2.2.2.2.2.2.2.2.2.2.2.2.2.2.2.2.2.2.2.2.2.1,.string r.2.2.2.2.2.2.2.2.2.2.2.2.2.2.2.2.2.2.2.2.2.2.2.2.2.1,.bool r.2.2.2.2.2.2.2.2.2.2.2.2.2.2.2.2.2.2.2.2.2.2.2.2.2.2.1,.string r.2.2.2.2.2.2.2.2.2.2.2.2.2.2.2.2.2.2.2.2.2.2.2.2.2.2.2.1,.bool r.2.2.2.2.2.2.2.2.2.2.2.2.2.2.2.2.2.2.2.2.2.2.2.2.2.2.2.2.1,.string r.2.2.2.2.2.2.2.2.2.2.2.2.2.2.2.2.2.2.2.2.2.2.2.2.2.2.2.2.2]⟩,[])):=by kernel_rfl
noncomputable def Bz.o:Option (TY15):=Bz.K Ca Ca.pre a0 a1 a2 some
noncomputable def Bz.pre:Bool:=(Bz.o a0 a1 a2).isSome
noncomputable def Bz:TY15:=(Bz.o a0 a1 a2).getD default
theorem Bz.nat (k:TY15→Option R):Bz.K EY EX a0 a1 a2 k=(Bz.K EY EX a0 a1 a2 some).bind k:=by
 simp only [Bz.K,bcond,Option.bind_some,Option.bind_none]
end
theorem Bz.os:Bz.o 0 0 0=some ((dI (qof 0).c0).1,(dI (qof 0).c0).2,(dI (qof 0).c1).1,(dI (qof 0).c1).2,(dI (qof 0).c2).1,(dI (qof 0).c2).2,(dI (qof 0).c3).1,(dI (qof 0).c3).2,(dI (qof 0).d).1,(dI (qof 0).d).2,(dI (qof 0).c0).1,(dI (qof 0).c0).2,(dI (qof 0).c1).1,(dI (qof 0).c1).2,(dI (qof 0).c2).1,(dI (qof 0).c2).2,(dI (qof 0).c3).1,(dI (qof 0).c3).2,(dI (qof 0).d).1,(dI (qof 0).d).2,(dI (qof 0).c0).1,(dI (qof 0).c0).2,(dI (qof 0).c1).1,(dI (qof 0).c1).2,(dI (qof 0).c2).1,(dI (qof 0).c2).2,(dI (qof 0).c3).1,(dI (qof 0).c3).2,(dI (qof 0).d).1,(dI (qof 0).d).2):=by
 have p:=Ca.ps (n:=0) (by decide) (by decide)
 have e:=Ca.es (n:=0) (by decide) (by decide)
 simp only [Bz.o,Bz.K,p,e,cond_true]
 rfl
theorem Bz.ps:Bz.pre 0 0 0=true:=Ey Bz.os
theorem Bz.es:Bz 0 0 0=((dI (qof 0).c0).1,(dI (qof 0).c0).2,(dI (qof 0).c1).1,(dI (qof 0).c1).2,(dI (qof 0).c2).1,(dI (qof 0).c2).2,(dI (qof 0).c3).1,(dI (qof 0).c3).2,(dI (qof 0).d).1,(dI (qof 0).d).2,(dI (qof 0).c0).1,(dI (qof 0).c0).2,(dI (qof 0).c1).1,(dI (qof 0).c1).2,(dI (qof 0).c2).1,(dI (qof 0).c2).2,(dI (qof 0).c3).1,(dI (qof 0).c3).2,(dI (qof 0).d).1,(dI (qof 0).d).2,(dI (qof 0).c0).1,(dI (qof 0).c0).2,(dI (qof 0).c1).1,(dI (qof 0).c1).2,(dI (qof 0).c2).1,(dI (qof 0).c2).2,(dI (qof 0).c3).1,(dI (qof 0).c3).2,(dI (qof 0).d).1,(dI (qof 0).d).2):=Fq Bz.os
theorem Bz.ok:SOK Tryz.prog 93 (Bz.sp Bz Bz.pre):=by
 refine Cq (E:=⟨[(116,Ca.sp Ca Ca.pre)],[],[]⟩) (L:=[]) ⟨(Aa Ca.ok Ac),Ai,Ad,Ah⟩ 60 Tryz.func93 (by decide) rfl Bs fun vs bl v bl' h=> ?_
 unfold Bz.sp at h
 split at h
 ·rename_i a0 a1 a2
  simp only [Option.some.injEq,Prod.mk.injEq] at h
  obtain ⟨hp,rfl,rfl⟩:=h
  have hr:=Bz.run Ca Ca.pre a0 a1 a2
  rw [Bz.nat] at hr
  obtain ⟨r,h2⟩:=Option.isSome_iff_exists.1 (hp:(Bz.o a0 a1 a2).isSome=true)
  have h3:Bz a0 a1 a2=r:=by unfold Bz; rw [h2]; rfl
  have h4:Bz.K Ca Ca.pre a0 a1 a2 some=some r:=h2
  rw [h4,Option.bind_some] at hr
  rw [h3]
  exact ⟨hr,by simp [okV,Nat.blt],clo_spec 8 _ (by kernel_rfl),As (by kernel_rfl)⟩
 ·cases h
section
variable {R:Type} (FR:Int→Int→Int→(TY15)) (FN:Int→Int→Int→Bool) (A2:Bool) (A3:ByteArray) (A8:Bool) (A7:ByteArray) (A6:Bool) (A9:ByteArray) (AB:Bool) (AA:ByteArray) (AD:Bool) (AC:ByteArray) (BI:Bool) (BH:ByteArray) (BG:Bool) (BF:ByteArray) (BE:Bool) (BD:ByteArray) (BC:Bool) (BB:ByteArray) (BA:Bool) (B9:ByteArray) (B8:Bool) (B7:ByteArray) (B6:Bool) (B5:ByteArray) (B4:Bool) (B3:ByteArray) (B2:Bool) (AZ:ByteArray) (AY:Bool) (AX:ByteArray)
noncomputable def Bo.K (k:(Bool)→Option R):Option R:=
 let t0:=FN 0 0 0
 bif t0 then
 let t1:=FR 0 0 0
 k (A2==t1.1&&A3.toList==t1.2.1.toList&&(A8==t1.2.2.1&&A7.toList==t1.2.2.2.1.toList&&(A6==t1.2.2.2.2.1&&A9.toList==t1.2.2.2.2.2.1.toList&&(AB==t1.2.2.2.2.2.2.1&&AA.toList==t1.2.2.2.2.2.2.2.1.toList)))&&(AD==t1.2.2.2.2.2.2.2.2.1&&AC.toList==t1.2.2.2.2.2.2.2.2.2.1.toList)&&(BI==t1.2.2.2.2.2.2.2.2.2.2.1&&BH.toList==t1.2.2.2.2.2.2.2.2.2.2.2.1.toList&&(BG==t1.2.2.2.2.2.2.2.2.2.2.2.2.1&&BF.toList==t1.2.2.2.2.2.2.2.2.2.2.2.2.2.1.toList&&(BE==t1.2.2.2.2.2.2.2.2.2.2.2.2.2.2.1&&BD.toList==t1.2.2.2.2.2.2.2.2.2.2.2.2.2.2.2.1.toList&&(BC==t1.2.2.2.2.2.2.2.2.2.2.2.2.2.2.2.2.1&&BB.toList==t1.2.2.2.2.2.2.2.2.2.2.2.2.2.2.2.2.2.1.toList)))&&(BA==t1.2.2.2.2.2.2.2.2.2.2.2.2.2.2.2.2.2.2.1&&B9.toList==t1.2.2.2.2.2.2.2.2.2.2.2.2.2.2.2.2.2.2.2.1.toList)&&(B8==t1.2.2.2.2.2.2.2.2.2.2.2.2.2.2.2.2.2.2.2.2.1&&B7.toList==t1.2.2.2.2.2.2.2.2.2.2.2.2.2.2.2.2.2.2.2.2.2.1.toList&&(B6==t1.2.2.2.2.2.2.2.2.2.2.2.2.2.2.2.2.2.2.2.2.2.2.1&&B5.toList==t1.2.2.2.2.2.2.2.2.2.2.2.2.2.2.2.2.2.2.2.2.2.2.2.1.toList&&(B4==t1.2.2.2.2.2.2.2.2.2.2.2.2.2.2.2.2.2.2.2.2.2.2.2.2.1&&B3.toList==t1.2.2.2.2.2.2.2.2.2.2.2.2.2.2.2.2.2.2.2.2.2.2.2.2.2.1.toList&&(B2==t1.2.2.2.2.2.2.2.2.2.2.2.2.2.2.2.2.2.2.2.2.2.2.2.2.2.2.1&&AZ.toList==t1.2.2.2.2.2.2.2.2.2.2.2.2.2.2.2.2.2.2.2.2.2.2.2.2.2.2.2.1.toList)))&&(AY==t1.2.2.2.2.2.2.2.2.2.2.2.2.2.2.2.2.2.2.2.2.2.2.2.2.2.2.2.2.1&&AX.toList==t1.2.2.2.2.2.2.2.2.2.2.2.2.2.2.2.2.2.2.2.2.2.2.2.2.2.2.2.2.2.toList)))) else none
theorem Bo.run:xfn Tryz.prog ⟨[(93,Bz.sp FR FN)],[],[]⟩ [] 60 Tryz.f60 [.agg ⟨[.bool A2,.string A3,.bool A8,.string A7,.bool A6,.string A9,.bool AB,.string AA,.bool AD,.string AC,.bool BI,.string BH,.bool BG,.string BF,.bool BE,.string BD,.bool BC,.string BB,.bool BA,.string B9,.bool B8,.string B7,.bool B6,.string B5,.bool B4,.string B3,.bool B2,.string AZ,.bool AY,.string AX]⟩] []=Bo.K FR FN A2 A3 A8 A7 A6 A9 AB AA AD AC BI BH BG BF BE BD BC BB BA B9 B8 B7 B6 B5 B4 B3 B2 AZ AY AX (fun r=>some (.bool r,[])):=by kernel_rfl
noncomputable def Bo.o:Option (Bool):=Bo.K Bz Bz.pre A2 A3 A8 A7 A6 A9 AB AA AD AC BI BH BG BF BE BD BC BB BA B9 B8 B7 B6 B5 B4 B3 B2 AZ AY AX some
noncomputable def Bo.pre:Bool:=(Bo.o A2 A3 A8 A7 A6 A9 AB AA AD AC BI BH BG BF BE BD BC BB BA B9 B8 B7 B6 B5 B4 B3 B2 AZ AY AX).isSome
noncomputable def Bo:Bool:=(Bo.o A2 A3 A8 A7 A6 A9 AB AA AD AC BI BH BG BF BE BD BC BB BA B9 B8 B7 B6 B5 B4 B3 B2 AZ AY AX).getD default
theorem Bo.nat (k:(Bool)→Option R):Bo.K FR FN A2 A3 A8 A7 A6 A9 AB AA AD AC BI BH BG BF BE BD BC BB BA B9 B8 B7 B6 B5 B4 B3 B2 AZ AY AX k=(Bo.K FR FN A2 A3 A8 A7 A6 A9 AB AA AD AC BI BH BG BF BE BD BC BB BA B9 B8 B7 B6 B5 B4 B3 B2 AZ AY AX some).bind k:=by
 simp only [Bo.K,bcond,Option.bind_some,Option.bind_none]
end
theorem Nl {w:Q} (ow:w.ok=true):(w.c0==0&&(w.c1==0&&(w.c2==0&&w.c3==0))&&w.d==1)=w.nul:=by
 cases hn:w.nul with
 |true=>rw [QX ow hn]; rfl
 | false=>
  have:(w.c0==0&&(w.c1==0&&(w.c2==0&&w.c3==0)))=w.nul:=by unfold Q.nul; simp only [Bool.and_assoc]
  rw [this,hn]; rfl
theorem Bo.os {x y z:Q} (ox:x.ok=true) (oy:y.ok=true) (oz:z.ok=true):Bo.o (dI x.c0).1 (dI x.c0).2 (dI x.c1).1 (dI x.c1).2 (dI x.c2).1 (dI x.c2).2 (dI x.c3).1 (dI x.c3).2 (dI x.d).1 (dI x.d).2 (dI y.c0).1 (dI y.c0).2 (dI y.c1).1 (dI y.c1).2 (dI y.c2).1 (dI y.c2).2 (dI y.c3).1 (dI y.c3).2 (dI y.d).1 (dI y.d).2 (dI z.c0).1 (dI z.c0).2 (dI z.c1).1 (dI z.c1).2 (dI z.c2).1 (dI z.c2).2 (dI z.c3).1 (dI z.c3).2 (dI z.d).1 (dI z.d).2=some (x.nul&&(y.nul&&z.nul)):=by
 have z0:(qof 0).c0=0∧(qof 0).c1=0∧(qof 0).c2=0∧(qof 0).c3=0∧(qof 0).d=1:=⟨rfl,rfl,rfl,rfl,rfl⟩
 simp only [Bo.o,Bo.K,Bz.ps,Bz.es,cond_true,Kh,z0.1,z0.2.1,z0.2.2.1,z0.2.2.2.1,z0.2.2.2.2]
 rw [←Nl ox,←Nl oy,←Nl oz]
theorem Bo.ps {x y z:Q} (ox:x.ok=true) (oy:y.ok=true) (oz:z.ok=true):Bo.pre (dI x.c0).1 (dI x.c0).2 (dI x.c1).1 (dI x.c1).2 (dI x.c2).1 (dI x.c2).2 (dI x.c3).1 (dI x.c3).2 (dI x.d).1 (dI x.d).2 (dI y.c0).1 (dI y.c0).2 (dI y.c1).1 (dI y.c1).2 (dI y.c2).1 (dI y.c2).2 (dI y.c3).1 (dI y.c3).2 (dI y.d).1 (dI y.d).2 (dI z.c0).1 (dI z.c0).2 (dI z.c1).1 (dI z.c1).2 (dI z.c2).1 (dI z.c2).2 (dI z.c3).1 (dI z.c3).2 (dI z.d).1 (dI z.d).2=true:=Ey (Bo.os ox oy oz)
theorem Bo.es {x y z:Q} (ox:x.ok=true) (oy:y.ok=true) (oz:z.ok=true):Bo (dI x.c0).1 (dI x.c0).2 (dI x.c1).1 (dI x.c1).2 (dI x.c2).1 (dI x.c2).2 (dI x.c3).1 (dI x.c3).2 (dI x.d).1 (dI x.d).2 (dI y.c0).1 (dI y.c0).2 (dI y.c1).1 (dI y.c1).2 (dI y.c2).1 (dI y.c2).2 (dI y.c3).1 (dI y.c3).2 (dI y.d).1 (dI y.d).2 (dI z.c0).1 (dI z.c0).2 (dI z.c1).1 (dI z.c1).2 (dI z.c2).1 (dI z.c2).2 (dI z.c3).1 (dI z.c3).2 (dI z.d).1 (dI z.d).2=(x.nul&&(y.nul&&z.nul)):=Fq (Bo.os ox oy oz)
theorem Bo.ok:SOK Tryz.prog 60 (Bo.sp Bo Bo.pre):=by
 refine Cq (E:=⟨[(93,Bz.sp Bz Bz.pre)],[],[]⟩) (L:=[]) ⟨(Aa Bz.ok Ac),Ai,Ad,Ah⟩ 60 Tryz.func60 (by decide) rfl Bs fun vs bl v bl' h=> ?_
 unfold Bo.sp at h
 split at h
 ·rename_i A2 A3 A8 A7 A6 A9 AB AA AD AC BI BH BG BF BE BD BC BB BA B9 B8 B7 B6 B5 B4 B3 B2 AZ AY AX
  simp only [Option.some.injEq,Prod.mk.injEq] at h
  obtain ⟨hp,rfl,rfl⟩:=h
  have hr:=Bo.run Bz Bz.pre A2 A3 A8 A7 A6 A9 AB AA AD AC BI BH BG BF BE BD BC BB BA B9 B8 B7 B6 B5 B4 B3 B2 AZ AY AX
  rw [Bo.nat] at hr
  obtain ⟨r,h2⟩:=Option.isSome_iff_exists.1 (hp:(Bo.o A2 A3 A8 A7 A6 A9 AB AA AD AC BI BH BG BF BE BD BC BB BA B9 B8 B7 B6 B5 B4 B3 B2 AZ AY AX).isSome=true)
  have h3:Bo A2 A3 A8 A7 A6 A9 AB AA AD AC BI BH BG BF BE BD BC BB BA B9 B8 B7 B6 B5 B4 B3 B2 AZ AY AX=r:=by unfold Bo; rw [h2]; rfl
  have h4:Bo.K Bz Bz.pre A2 A3 A8 A7 A6 A9 AB AA AD AC BI BH BG BF BE BD BC BB BA B9 B8 B7 B6 B5 B4 B3 B2 AZ AY AX some=some r:=h2
  rw [h4,Option.bind_some] at hr
  rw [h3]
  exact ⟨hr,by simp [okV,Nat.blt],clo_spec 8 _ (by kernel_rfl),As (by kernel_rfl)⟩
 ·cases h
section
variable {R:Type} (CM:TF5 (Bool)) (CL:TF5 Bool) (F8:TF15 (Bool)) (F3:TF15 Bool) (FH:TF15 (Bool)) (FF:TF15 Bool) (A2:Bool) (A3:ByteArray) (A8:Bool) (A7:ByteArray) (A6:Bool) (A9:ByteArray) (AB:Bool) (AA:ByteArray) (AD:Bool) (AC:ByteArray) (BI:Bool) (BH:ByteArray) (BG:Bool) (BF:ByteArray) (BE:Bool) (BD:ByteArray) (BC:Bool) (BB:ByteArray) (BA:Bool) (B9:ByteArray) (B8:Bool) (B7:ByteArray) (B6:Bool) (B5:ByteArray) (B4:Bool) (B3:ByteArray) (B2:Bool) (AZ:ByteArray) (AY:Bool) (AX:ByteArray) (CH:Bool) (CG:ByteArray) (CF:Bool) (CE:ByteArray) (CD:Bool) (CC:ByteArray) (CB:Bool) (CA:ByteArray) (C9:Bool) (C8:ByteArray)
noncomputable def Bj.K (k:(Bool)→Option R):Option R:=
 let t0:=F3 A2 A3 A8 A7 A6 A9 AB AA AD AC BI BH BG BF BE BD BC BB BA B9 B8 B7 B6 B5 B4 B3 B2 AZ AY AX
 bif t0 then
 let t1:=F8 A2 A3 A8 A7 A6 A9 AB AA AD AC BI BH BG BF BE BD BC BB BA B9 B8 B7 B6 B5 B4 B3 B2 AZ AY AX
 bif t1 then
 let t2:=FF A2 A3 A8 A7 A6 A9 AB AA AD AC BI BH BG BF BE BD BC BB BA B9 B8 B7 B6 B5 B4 B3 B2 AZ AY AX
 bif t2 then
 let t3:=FH A2 A3 A8 A7 A6 A9 AB AA AD AC BI BH BG BF BE BD BC BB BA B9 B8 B7 B6 B5 B4 B3 B2 AZ AY AX
 bif !t3 then
 let t4:=CL CH CG CF CE CD CC CB CA C9 C8
 bif t4 then
 let t5:=CM CH CG CF CE CD CC CB CA C9 C8
 k (t5) else none else k (false) else none else k (false) else none
theorem Bj.run:xfn Tryz.prog ⟨[(58,Af.sp CM CL),(59,Bk.sp F8 F3),(60,Bo.sp FH FF)],[],[]⟩ [] 60 Tryz.f20 [.agg ⟨.bool A2:: .string A3:: .bool A8:: .string A7:: .bool A6:: .string A9:: .bool AB:: .string AA:: .bool AD:: .string AC:: .bool BI:: .string BH:: .bool BG:: .string BF:: .bool BE:: .string BD:: .bool BC:: .string BB:: .bool BA:: .string B9:: .bool B8:: .string B7:: .bool B6:: .string B5:: .bool B4:: .string B3:: .bool B2:: .string AZ:: .bool AY:: .string AX:: .bool CH:: .string CG:: .bool CF:: .string CE:: .bool CD:: .string CC:: .bool CB:: .string CA:: .bool C9:: .string C8::[]⟩] []=Bj.K CM CL F8 F3 FH FF A2 A3 A8 A7 A6 A9 AB AA AD AC BI BH BG BF BE BD BC BB BA B9 B8 B7 B6 B5 B4 B3 B2 AZ AY AX CH CG CF CE CD CC CB CA C9 C8 (fun r=>some (.bool r,[])):=by kernel_rfl
noncomputable def Bj.o:Option (Bool):=Bj.K Af Af.pre Bk Bk.pre Bo Bo.pre A2 A3 A8 A7 A6 A9 AB AA AD AC BI BH BG BF BE BD BC BB BA B9 B8 B7 B6 B5 B4 B3 B2 AZ AY AX CH CG CF CE CD CC CB CA C9 C8 some
noncomputable def Bj.pre:Bool:=(Bj.o A2 A3 A8 A7 A6 A9 AB AA AD AC BI BH BG BF BE BD BC BB BA B9 B8 B7 B6 B5 B4 B3 B2 AZ AY AX CH CG CF CE CD CC CB CA C9 C8).isSome
noncomputable def Bj:Bool:=(Bj.o A2 A3 A8 A7 A6 A9 AB AA AD AC BI BH BG BF BE BD BC BB BA B9 B8 B7 B6 B5 B4 B3 B2 AZ AY AX CH CG CF CE CD CC CB CA C9 C8).getD default
theorem Bj.nat (k:(Bool)→Option R):Bj.K CM CL F8 F3 FH FF A2 A3 A8 A7 A6 A9 AB AA AD AC BI BH BG BF BE BD BC BB BA B9 B8 B7 B6 B5 B4 B3 B2 AZ AY AX CH CG CF CE CD CC CB CA C9 C8 k=(Bj.K CM CL F8 F3 FH FF A2 A3 A8 A7 A6 A9 AB AA AD AC BI BH BG BF BE BD BC BB BA B9 B8 B7 B6 B5 B4 B3 B2 AZ AY AX CH CG CF CE CD CC CB CA C9 C8 some).bind k:=by
 simp only [Bj.K,bcond,Option.bind_some,Option.bind_none]
theorem Bj.os {x y z q:Q} (hx:x.Le 16777215) (hy:y.Le 16777215) (hz:z.Le 16777215) (hq:q.Le 16777215) (ox:x.ok=true) (oy:y.ok=true) (oz:z.ok=true) (oq:q.ok=true):Bj.o (dI x.c0).1 (dI x.c0).2 (dI x.c1).1 (dI x.c1).2 (dI x.c2).1 (dI x.c2).2 (dI x.c3).1 (dI x.c3).2 (dI x.d).1 (dI x.d).2 (dI y.c0).1 (dI y.c0).2 (dI y.c1).1 (dI y.c1).2 (dI y.c2).1 (dI y.c2).2 (dI y.c3).1 (dI y.c3).2 (dI y.d).1 (dI y.d).2 (dI z.c0).1 (dI z.c0).2 (dI z.c1).1 (dI z.c1).2 (dI z.c2).1 (dI z.c2).2 (dI z.c3).1 (dI z.c3).2 (dI z.d).1 (dI z.d).2 (dI q.c0).1 (dI q.c0).2 (dI q.c1).1 (dI q.c1).2 (dI q.c2).1 (dI q.c2).2 (dI q.c3).1 (dI q.c3).2 (dI q.d).1 (dI q.d).2=some (!(x.nul&&(y.nul&&z.nul))):=by
 simp only [Bj.o,Bj.K,Bk.ps hx hy hz,Bk.es hx hy hz,Bo.ps ox oy oz,Bo.es ox oy oz,Af.ps hq,Af.es hq,ox,oy,oz,oq,Bool.and_self,cond_true]
 cases (x.nul&&(y.nul&&z.nul))<;>rfl
theorem Bj.ps {x y z q:Q} (hx:x.Le 16777215) (hy:y.Le 16777215) (hz:z.Le 16777215) (hq:q.Le 16777215) (ox:x.ok=true) (oy:y.ok=true) (oz:z.ok=true) (oq:q.ok=true):Bj.pre (dI x.c0).1 (dI x.c0).2 (dI x.c1).1 (dI x.c1).2 (dI x.c2).1 (dI x.c2).2 (dI x.c3).1 (dI x.c3).2 (dI x.d).1 (dI x.d).2 (dI y.c0).1 (dI y.c0).2 (dI y.c1).1 (dI y.c1).2 (dI y.c2).1 (dI y.c2).2 (dI y.c3).1 (dI y.c3).2 (dI y.d).1 (dI y.d).2 (dI z.c0).1 (dI z.c0).2 (dI z.c1).1 (dI z.c1).2 (dI z.c2).1 (dI z.c2).2 (dI z.c3).1 (dI z.c3).2 (dI z.d).1 (dI z.d).2 (dI q.c0).1 (dI q.c0).2 (dI q.c1).1 (dI q.c1).2 (dI q.c2).1 (dI q.c2).2 (dI q.c3).1 (dI q.c3).2 (dI q.d).1 (dI q.d).2=true:=Ey (Bj.os hx hy hz hq ox oy oz oq)
theorem Bj.es {x y z q:Q} (hx:x.Le 16777215) (hy:y.Le 16777215) (hz:z.Le 16777215) (hq:q.Le 16777215) (ox:x.ok=true) (oy:y.ok=true) (oz:z.ok=true) (oq:q.ok=true):Bj (dI x.c0).1 (dI x.c0).2 (dI x.c1).1 (dI x.c1).2 (dI x.c2).1 (dI x.c2).2 (dI x.c3).1 (dI x.c3).2 (dI x.d).1 (dI x.d).2 (dI y.c0).1 (dI y.c0).2 (dI y.c1).1 (dI y.c1).2 (dI y.c2).1 (dI y.c2).2 (dI y.c3).1 (dI y.c3).2 (dI y.d).1 (dI y.d).2 (dI z.c0).1 (dI z.c0).2 (dI z.c1).1 (dI z.c1).2 (dI z.c2).1 (dI z.c2).2 (dI z.c3).1 (dI z.c3).2 (dI z.d).1 (dI z.d).2 (dI q.c0).1 (dI q.c0).2 (dI q.c1).1 (dI q.c1).2 (dI q.c2).1 (dI q.c2).2 (dI q.c3).1 (dI q.c3).2 (dI q.d).1 (dI q.d).2=(!(x.nul&&(y.nul&&z.nul))):=Fq (Bj.os hx hy hz hq ox oy oz oq)
end
theorem Bj.ok:SOK Tryz.prog 20 (Bj.sp Bj Bj.pre):=by
 refine Cq (E:=⟨[(58,Af.sp Af Af.pre),(59,Bk.sp Bk Bk.pre),(60,Bo.sp Bo Bo.pre)],[],[]⟩) (L:=[]) ⟨(Aa Af.ok (Aa Bk.ok (Aa Bo.ok Ac))),Ai,Ad,Ah⟩ 60 Tryz.func20 (by decide) rfl Bs fun vs bl v bl' h=> ?_
 unfold Bj.sp at h
 split at h
 ·rename_i A2 A3 A8 A7 A6 A9 AB AA AD AC BI BH BG BF BE BD BC BB BA B9 B8 B7 B6 B5 B4 B3 B2 AZ AY AX CH CG CF CE CD CC CB CA C9 C8
  simp only [Option.some.injEq,Prod.mk.injEq] at h
  obtain ⟨hp,rfl,rfl⟩:=h
  have hr:=Bj.run Af Af.pre Bk Bk.pre Bo Bo.pre A2 A3 A8 A7 A6 A9 AB AA AD AC BI BH BG BF BE BD BC BB BA B9 B8 B7 B6 B5 B4 B3 B2 AZ AY AX CH CG CF CE CD CC CB CA C9 C8
  rw [Bj.nat] at hr
  obtain ⟨r,h2⟩:=Option.isSome_iff_exists.1 (hp:(Bj.o A2 A3 A8 A7 A6 A9 AB AA AD AC BI BH BG BF BE BD BC BB BA B9 B8 B7 B6 B5 B4 B3 B2 AZ AY AX CH CG CF CE CD CC CB CA C9 C8).isSome=true)
  have h3:Bj A2 A3 A8 A7 A6 A9 AB AA AD AC BI BH BG BF BE BD BC BB BA B9 B8 B7 B6 B5 B4 B3 B2 AZ AY AX CH CG CF CE CD CC CB CA C9 C8=r:=by unfold Bj; rw [h2]; rfl
  have h4:Bj.K Af Af.pre Bk Bk.pre Bo Bo.pre A2 A3 A8 A7 A6 A9 AB AA AD AC BI BH BG BF BE BD BC BB BA B9 B8 B7 B6 B5 B4 B3 B2 AZ AY AX CH CG CF CE CD CC CB CA C9 C8 some=some r:=h2
  rw [h4,Option.bind_some] at hr
  rw [h3]
  exact ⟨hr,by simp [okV,Nat.blt],clo_spec 8 _ (by kernel_rfl),As (by kernel_rfl)⟩
 ·cases h
end Go.Proofs.YtphlckkbihmlnaaGreatDoor.G
end
section
namespace Go.Proofs.YtphlckkbihmlnaaGreatDoor.G
set_option maxRecDepth 100000
open Go
abbrev MM:Int:=274877906944
def UN (m:Bx):Prop:=∃P0 P1 P2:Int,Pt P0 16384 m.1∧Pt P1 16384 m.2.1∧Pt P2 16384 m.2.2∧P0*P0+P1*P1+P2*P2≤MM*MM∧MM*MM≤P0*P0+P1*P1+P2*P2+9*MM
theorem ddot_pt {d m:Bx} {x:I2} {w0 w1 w2 P0 P1 P2 q j:Int} (hq:0<q) (hj:0<j) (h0:Pt w0 q d.1) (h1:Pt w1 q d.2.1) (h2:Pt w2 q d.2.2) (k0:Pt P0 j m.1) (k1:Pt P1 j m.2.1) (k2:Pt P2 j m.2.2) (e:ddot d m= .ok x):Pt (w0*P0+w1*P1+w2*P2) (16777216*(q*j)) x:=by
 unfold ddot at e
 obtain ⟨_,e⟩:=JN rfl e
 obtain ⟨x0,e0,e⟩:=GL e
 obtain ⟨x1,e1,e⟩:=GL e
 obtain ⟨x2,e2,e⟩:=GL e
 obtain ⟨s,e3,e⟩:=GL e
 exact O8 (O8 (Je hq hj h0 k0 e0) (Je hq hj h1 k1 e1) e3) (Je hq hj h2 k2 e2) e
theorem QF {d m a:Bx} {w0 w1 w2 P0 P1 P2 q:Int} (hq:0<q) (h0:Pt w0 q d.1) (h1:Pt w1 q d.2.1) (h2:Pt w2 q d.2.2) (k0:Pt P0 16384 m.1) (k1:Pt P1 16384 m.2.1) (k2:Pt P2 16384 m.2.2) (e:rflx d m= .ok a):
  Pt (w0*(MM*MM)-P0*(2*(w0*P0+w1*P1+w2*P2))) (q*(MM*MM)) a.1∧Pt (w1*(MM*MM)-P1*(2*(w0*P0+w1*P1+w2*P2))) (q*(MM*MM)) a.2.1∧Pt (w2*(MM*MM)-P2*(2*(w0*P0+w1*P1+w2*P2))) (q*(MM*MM)) a.2.2:=by
 unfold rflx at e
 obtain ⟨x,e0,e⟩:=GL e
 obtain ⟨k,e1,e⟩:=GL e
 obtain ⟨s,e2,e⟩:=GL e
 have px:=ddot_pt hq (by decide) h0 h1 h2 k0 k1 k2 e0
 have pk:=O8 px px e1
 generalize w0*P0+w1*P1+w2*P2=t at*
 have hqj:0<16777216*(q*16384):=by omega
 unfold dscale at e2
 obtain ⟨_,e2⟩:=JN rfl e2
 unfold dzip at e2
 obtain ⟨s0,f0,e2⟩:=GL e2
 obtain ⟨s1,f1,e2⟩:=GL e2
 obtain ⟨s2,f2,e2⟩:=GL e2
 injection e2 with e2
 subst e2
 have g0:=Je (by decide) hqj k0 pk f0
 have g1:=Je (by decide) hqj k1 pk f1
 have g2:=Je (by decide) hqj k2 pk f2
 unfold dsub at e
 obtain ⟨_,e⟩:=JN rfl e
 unfold dzip at e
 obtain ⟨u0,v0,e⟩:=GL e
 obtain ⟨u1,v1,e⟩:=GL e
 obtain ⟨u2,v2,e⟩:=GL e
 injection e with e
 subst e
 have ed:16777216*(16384*(16777216*(q*16384)))=q*(MM*MM):=by unfold MM; omega
 have et:t+t=2*t:=by omega
 rw [ed,et] at g0 g1 g2
 have hM:(0:Int)≤MM*MM:=by decide
 exact ⟨NU (h0.scale hM) g0 v0,NU (h1.scale hM) g1 v1,NU (h2.scale hM) g2 v2⟩
theorem M4 (w0 w1 w2 P0 P1 P2 N:Int) (i wi:Int):
  (wi*N-i*(2*(w0*P0+w1*P1+w2*P2)))*N-i*(2*((w0*N-P0*(2*(w0*P0+w1*P1+w2*P2)))*P0+(w1*N-P1*(2*(w0*P0+w1*P1+w2*P2)))*P1+(w2*N-P2*(2*(w0*P0+w1*P1+w2*P2)))*P2))=
  wi*(N*N)-4*((w0*P0+w1*P1+w2*P2)*i*(N-(P0*P0+P1*P1+P2*P2))):=by
 grind
theorem Na {p s:Int} (h:p*p≤s) (hs:s≤MM*MM): -MM≤p∧p≤MM:=by
 constructor
 ·rcases Int.lt_or_le p (-MM) with h1|h1
  ·have:=Li (x:=MM+1) (y:= -p) (by unfold MM at*; omega) (by omega)
   rw [Int.neg_mul_neg] at this
   unfold MM at*; omega
  ·exact h1
 ·rcases Int.lt_or_le MM p with h1|h1
  ·have:=Li (x:=MM+1) (y:=p) (by unfold MM at*; omega) (by omega)
   unfold MM at*; omega
  ·exact h1
theorem OB {d m a b:Bx} {w0 w1 w2:Int} (hd:VB d=true) (hm:UN m) (h0:Pt w0 1 d.1) (h1:Pt w1 1 d.2.1) (h2:Pt w2 1 d.2.2) (e:rflx d m= .ok a) (e':rflx a m= .ok b):
  (b.1.1≤w0∧w0≤b.1.2)∧(b.2.1.1≤w1∧w1≤b.2.1.2)∧(b.2.2.1≤w2∧w2≤b.2.2.2):=by
 obtain ⟨P0,P1,P2,k0,k1,k2,l,u⟩:=hm
 obtain ⟨v0,v1,v2⟩:=O9.1 hd
 have bd:∀ {w:Int} {X:I2},V2 X=true→Pt w 1 X→ -1073741824≤w∧w≤1073741824:=fun hv hp=>by
  have:=Ij.1 hv; have h3:=hp.lo; have h4:=hp.hi; omega
 have b0:=bd v0 h0
 have b1:=bd v1 h1
 have b2:=bd v2 h2
 obtain ⟨a0,a1,a2⟩:=QF (by decide) h0 h1 h2 k0 k1 k2 e
 obtain ⟨c0,c1,c2⟩:=QF (q:=1*(MM*MM)) (by decide) a0 a1 a2 k0 k1 k2 e'
 rw [M4 w0 w1 w2 P0 P1 P2 (MM*MM) P0 w0] at c0
 rw [M4 w0 w1 w2 P0 P1 P2 (MM*MM) P1 w1] at c1
 rw [M4 w0 w1 w2 P0 P1 P2 (MM*MM) P2 w2] at c2
 have s0:=I0 P0
 have s1:=I0 P1
 have s2:=I0 P2
 have r0:=Na (p:=P0) (s:=P0*P0+P1*P1+P2*P2) (by omega) l
 have r1:=Na (p:=P1) (s:=P0*P0+P1*P1+P2*P2) (by omega) l
 have r2:=Na (p:=P2) (s:=P0*P0+P1*P1+P2*P2) (by omega) l
 have m0:=Ir (A:=1073741824) (B:=MM) (by decide) (by decide) b0.1 b0.2 r0.1 r0.2
 have m1:=Ir (A:=1073741824) (B:=MM) (by decide) (by decide) b1.1 b1.2 r1.1 r1.2
 have m2:=Ir (A:=1073741824) (B:=MM) (by decide) (by decide) b2.1 b2.2 r2.1 r2.2
 have hE: -(9*MM)≤MM*MM-(P0*P0+P1*P1+P2*P2)∧MM*MM-(P0*P0+P1*P1+P2*P2)≤9*MM:=by omega
 generalize MM*MM-(P0*P0+P1*P1+P2*P2)=E at*
 have ht: -(3*(1073741824*MM))≤w0*P0+w1*P1+w2*P2∧w0*P0+w1*P1+w2*P2≤3*(1073741824*MM):=by omega
 generalize w0*P0+w1*P1+w2*P2=t at*
 have fin:∀ {i w:Int} {X:I2},-MM≤i→i≤MM→Pt (w*(MM*MM*(MM*MM))-4*(t*i*E)) (1*(MM*MM)*(MM*MM)) X→X.1≤w∧w≤X.2:=fun {i w X} hi hi' hp=>by
  have n1:=Ir (A:=3*(1073741824*MM)) (B:=MM) (by decide) (by decide) ht.1 ht.2 hi hi'
  have n2:=Ir (A:=3*(1073741824*MM)*MM) (B:=9*MM) (by decide) (by decide) n1.1 n1.2 hE.1 hE.2
  have h3:=hp.lo
  have h4:=hp.hi
  generalize t*i*E=f at*
  unfold MM at*
  omega
 exact ⟨fin r0.1 r0.2 c0,fin r1.1 r1.2 c1,fin r2.1 r2.2 c2⟩
theorem Qu {d m a b:Bx} (hd:VB d=true) (hm:UN m) (e:rflx d m= .ok a) (e':rflx a m= .ok b):
  (b.1.1≤d.1.1∧d.1.2≤b.1.2)∧(b.2.1.1≤d.2.1.1∧d.2.1.2≤b.2.1.2)∧(b.2.2.1≤d.2.2.1∧d.2.2.2≤b.2.2.2):=by
 obtain ⟨v0,v1,v2⟩:=O9.1 hd
 have lo:∀ {X:I2},V2 X=true→Pt X.1 1 X:=fun h=>Pt.int h
 have hi:∀ {X:I2},V2 X=true→Pt X.2 1 X:=fun {X} h=>by
  have:=Ij.1 (show V X.1 X.2=true from h)
  exact ⟨by omega,by omega⟩
 obtain ⟨p0,p1,p2⟩:=OB hd hm (lo v0) (lo v1) (lo v2) e e'
 obtain ⟨q0,q1,q2⟩:=OB hd hm (hi v0) (hi v1) (hi v2) e e'
 exact ⟨⟨p0.1,q0.2⟩,⟨p1.1,q1.2⟩,⟨p2.1,q2.2⟩⟩
theorem rflx_vd {d m a:Bx} (e:rflx d m= .ok a):VB d=true:=by
 unfold rflx at e
 obtain ⟨x,e0,_⟩:=GL e
 unfold ddot at e0
 obtain ⟨h,_⟩:=JN rfl e0
 simp only [Bool.and_eq_true] at h
 exact h.1
theorem rflx_vo {d m a:Bx} (e:rflx d m= .ok a):VB a=true:=by
 unfold rflx at e
 obtain ⟨_,_,e⟩:=GL e
 obtain ⟨_,_,e⟩:=GL e
 obtain ⟨_,_,e⟩:=GL e
 unfold dsub at e
 obtain ⟨_,e⟩:=JN rfl e
 unfold dzip at e
 obtain ⟨u0,v0,e⟩:=GL e
 obtain ⟨u1,v1,e⟩:=GL e
 obtain ⟨u2,v2,e⟩:=GL e
 injection e with e
 subst e
 exact O9.2 ⟨(NS v0).2,(NS v1).2,(NS v2).2⟩
end Go.Proofs.YtphlckkbihmlnaaGreatDoor.G
end
section
namespace Go.Proofs.YtphlckkbihmlnaaGreatDoor.G
set_option maxRecDepth 100000
open Go
structure Pq (x:Rat) (X:I2):Prop where
 lo:(X.1:Rat)≤x*16777216
 hi:x*16777216≤(X.2:Rat)
end Go.Proofs.YtphlckkbihmlnaaGreatDoor.G
end
section
namespace Go.Proofs.YtphlckkbihmlnaaGreatDoor.G
set_option maxRecDepth 100000
open Go Go.Proofs RX
def mn (x y:Int):Int:=if y<x then y else x
def mx (x y:Int):Int:=if y>x then y else x
theorem mn_eq (x y:Int):mn x y=min x y:=by unfold mn; split<;>omega
theorem mx_eq (x y:Int):mx x y=max x y:=by unfold mx; split<;>omega
def Fa.sp:HSpec
 |[.slice (some ⟨0,0,none⟩) 2 2],[.cs [.int .i64 a,.int .i64 b] 3]=>some (true,.tuple ⟨[.int .i64 (mn (mn a a) b),.int .i64 (mx (mx a a) b)]⟩,[.cs [.int .i64 a,.int .i64 b] 3])
 |[.slice (some ⟨0,0,none⟩) 4 4],[.cs [.int .i64 a,.int .i64 b,.int .i64 c,.int .i64 d] 3]=>some (true,.tuple ⟨[.int .i64 (mn (mn (mn (mn a a) b) c) d),.int .i64 (mx (mx (mx (mx a a) b) c) d)]⟩,[.cs [.int .i64 a,.int .i64 b,.int .i64 c,.int .i64 d] 3])
 |_,_=>none
theorem extremes2 (a b:Int):xfn Tryz.prog ⟨[],[],[]⟩ [] 10 Tryz.f61 [.slice (some ⟨0,0,none⟩) 2 2] [.cs [.int .i64 a,.int .i64 b] 3]=some (.tuple ⟨[.int .i64 (mn (mn a a) b),.int .i64 (mx (mx a a) b)]⟩,[.cs [.int .i64 a,.int .i64 b] 3]):=by kernel_rfl
theorem extremes4 (a b c d:Int):xfn Tryz.prog ⟨[],[],[]⟩ [] 10 Tryz.f61 [.slice (some ⟨0,0,none⟩) 4 4] [.cs [.int .i64 a,.int .i64 b,.int .i64 c,.int .i64 d] 3]=some (.tuple ⟨[.int .i64 (mn (mn (mn (mn a a) b) c) d),.int .i64 (mx (mx (mx (mx a a) b) c) d)]⟩,[.cs [.int .i64 a,.int .i64 b,.int .i64 c,.int .i64 d] 3]):=by kernel_rfl
theorem Fa.ok:SOK Tryz.prog 61 Fa.sp:=by
 refine Cq (E:=⟨[],[],[]⟩) ⟨Ac,Ai,Ad,Ah⟩ 10 Tryz.func61 (by decide) rfl Bs fun vs bl v bl' h=> ?_
 unfold Fa.sp at h
 split at h
 ·simp only [Option.some.injEq,Prod.mk.injEq,true_and] at h
  obtain ⟨rfl,rfl⟩:=h
  exact ⟨extremes2 _ _,by simp [okV,Nat.blt],clo_spec 8 _ rfl,As rfl⟩
 ·simp only [Option.some.injEq,Prod.mk.injEq,true_and] at h
  obtain ⟨rfl,rfl⟩:=h
  exact ⟨extremes4 _ _ _ _,by simp [okV,Nat.blt],clo_spec 8 _ rfl,As rfl⟩
 ·cases h
end Go.Proofs.YtphlckkbihmlnaaGreatDoor.G
end
section
namespace Go.Proofs.YtphlckkbihmlnaaGreatDoor.G
set_option maxRecDepth 100000
open Go Go.Proofs RX
def Hv (k:Nat):Int:=((2^k:Nat):Int)/2
theorem Pn:Hv 0=0:=by decide
theorem KE (k:Nat):Hv (k+1)=((2^k:Nat):Int):=by
 unfold Hv
 rw [Nat.pow_succ]
 omega
def root.tree (n r bit:Int) (d1 z d5 d6 d7 d8 d9 d10 d11 d12 d13 d14 d15 d16 d17 d18 d19:Value):Option (X×List Value×Heap):=
 bif decide (bit>0) then
  bif IntKind.i64.wrap (r+bit) !=0 then
   bif decide (IntKind.i64.wrap (r+bit)≤IntKind.i64.wrap (n.tdiv (IntKind.i64.wrap (r+bit)))) then
    some (.normal,[.int .i64 n,d1,z,.int .i64 (IntKind.i64.wrap (r+bit)),.int .i64 (bit.fdiv (2^min (Int.toNat 1) IntKind.i64.bits)),.int .i64 (IntKind.i64.wrap (r+bit)),.int .i64 bit,.bool true,.int .i64 bit,.int .i64 (bit.fdiv (2^min (Int.toNat 1) IntKind.i64.bits)),.int .i64 r,.int .i64 bit,.int .i64 (IntKind.i64.wrap (r+bit)),.int .i64 (IntKind.i64.wrap (r+bit)),.int .i64 n,.int .i64 (IntKind.i64.wrap (r+bit)),.int .i64 (IntKind.i64.wrap (n.tdiv (IntKind.i64.wrap (r+bit)))),.bool true,.int .i64 (IntKind.i64.wrap (r+bit)),d19],[])
   else
    some (.normal,[.int .i64 n,d1,z,.int .i64 r,.int .i64 (bit.fdiv (2^min (Int.toNat 1) IntKind.i64.bits)),.int .i64 (IntKind.i64.wrap (r+bit)),.int .i64 bit,.bool true,.int .i64 bit,.int .i64 (bit.fdiv (2^min (Int.toNat 1) IntKind.i64.bits)),.int .i64 r,.int .i64 bit,.int .i64 (IntKind.i64.wrap (r+bit)),.int .i64 (IntKind.i64.wrap (r+bit)),.int .i64 n,.int .i64 (IntKind.i64.wrap (r+bit)),.int .i64 (IntKind.i64.wrap (n.tdiv (IntKind.i64.wrap (r+bit)))),.bool false,d18,d19],[])
  else
   none
 else
  some (.exit 0,[.int .i64 n,d1,z,.int .i64 r,.int .i64 bit,d5,.int .i64 bit,.bool false,d8,d9,d10,d11,d12,d13,d14,d15,d16,d17,d18,d19],[])
theorem root.round (n r bit:Int) (d1 z d5 d6 d7 d8 d9 d10 d11 d12 d13 d14 d15 d16 d17 d18 d19:Value) (nx:Nat):exec Tryz.prog ⟨[],[],[]⟩ [] (hs Tryz.prog ⟨[],[],[]⟩ 3).lf (hs Tryz.prog ⟨[],[],[]⟩ 3).cf (Ag Tryz.f80 0) ⟨[.int .i64 n,d1,z,.int .i64 r,.int .i64 bit,d5,d6,d7,d8,d9,d10,d11,d12,d13,d14,d15,d16,d17,d18,d19],[],nx⟩ (fun x S=>some (x,S.tmps,S.heap))=root.tree n r bit d1 z d5 d6 d7 d8 d9 d10 d11 d12 d13 d14 d15 d16 d17 d18 d19:=by kernel_rfl
def root.fin:Nat→List Value→List Value
 |0,T=>T
 | k+1,[.int .i64 n,d1,z,.int .i64 r,.int .i64 bit,d5,d6,d7,d8,d9,d10,d11,d12,d13,d14,d15,d16,d17,d18,d19]=>(match root.tree n r bit d1 z d5 d6 d7 d8 d9 d10 d11 d12 d13 d14 d15 d16 d17 d18 d19 with
  |some (.normal,T,_)=>root.fin k T
  |some (_,T,_)=>T
  |none=>[])
 |_+1,T=>T
def root.rt:Nat→Int→Int→Int
 |0,n,r=>r
 |k+1,n,r=>root.rt k n (if IntKind.i64.wrap (r+Hv (k+1))≤IntKind.i64.wrap (n.tdiv (IntKind.i64.wrap (r+Hv (k+1)))) then IntKind.i64.wrap (r+Hv (k+1)) else r)
theorem T2 (k:Nat):(Hv (k+1)).fdiv (2^min (Int.toNat 1) IntKind.i64.bits)=Hv k:=by
 rw [KE]
 show (((2^k:Nat):Int)).fdiv 2=Hv k
 rw [Int.fdiv_eq_ediv_of_nonneg _ (by omega)]
 rfl
theorem T3 {k:Nat} (h:k≤32):0≤Hv k∧Hv k≤2147483648:=by
 have:2^k≤2^32:=Nat.pow_le_pow_right (by omega) h
 unfold Hv
 generalize 2^k=m at*
 omega
theorem root.lp:∀(k:Nat) (n r bit:Int) (d1 z d5 d6 d7 d8 d9 d10 d11 d12 d13 d14 d15 d16 d17 d18 d19:Value) (nx:Nat),k≤32→bit=Hv k→0≤r→r+2*bit≤4294967296→
  Lp Tryz.prog ⟨[],[],[]⟩ [] 3 (Ag Tryz.f80 0) ⟨[.int .i64 n,d1,z,.int .i64 r,.int .i64 bit,d5,d6,d7,d8,d9,d10,d11,d12,d13,d14,d15,d16,d17,d18,d19],[],nx⟩ (.exit 0) ⟨[.int .i64 n,RX.nth (root.fin (k+1) [.int .i64 n,d1,z,.int .i64 r,.int .i64 bit,d5,d6,d7,d8,d9,d10,d11,d12,d13,d14,d15,d16,d17,d18,d19]) 1,RX.nth (root.fin (k+1) [.int .i64 n,d1,z,.int .i64 r,.int .i64 bit,d5,d6,d7,d8,d9,d10,d11,d12,d13,d14,d15,d16,d17,d18,d19]) 2,.int .i64 (root.rt k n r),RX.nth (root.fin (k+1) [.int .i64 n,d1,z,.int .i64 r,.int .i64 bit,d5,d6,d7,d8,d9,d10,d11,d12,d13,d14,d15,d16,d17,d18,d19]) 4,RX.nth (root.fin (k+1) [.int .i64 n,d1,z,.int .i64 r,.int .i64 bit,d5,d6,d7,d8,d9,d10,d11,d12,d13,d14,d15,d16,d17,d18,d19]) 5,RX.nth (root.fin (k+1) [.int .i64 n,d1,z,.int .i64 r,.int .i64 bit,d5,d6,d7,d8,d9,d10,d11,d12,d13,d14,d15,d16,d17,d18,d19]) 6,RX.nth (root.fin (k+1) [.int .i64 n,d1,z,.int .i64 r,.int .i64 bit,d5,d6,d7,d8,d9,d10,d11,d12,d13,d14,d15,d16,d17,d18,d19]) 7,RX.nth (root.fin (k+1) [.int .i64 n,d1,z,.int .i64 r,.int .i64 bit,d5,d6,d7,d8,d9,d10,d11,d12,d13,d14,d15,d16,d17,d18,d19]) 8,RX.nth (root.fin (k+1) [.int .i64 n,d1,z,.int .i64 r,.int .i64 bit,d5,d6,d7,d8,d9,d10,d11,d12,d13,d14,d15,d16,d17,d18,d19]) 9,RX.nth (root.fin (k+1) [.int .i64 n,d1,z,.int .i64 r,.int .i64 bit,d5,d6,d7,d8,d9,d10,d11,d12,d13,d14,d15,d16,d17,d18,d19]) 10,RX.nth (root.fin (k+1) [.int .i64 n,d1,z,.int .i64 r,.int .i64 bit,d5,d6,d7,d8,d9,d10,d11,d12,d13,d14,d15,d16,d17,d18,d19]) 11,RX.nth (root.fin (k+1) [.int .i64 n,d1,z,.int .i64 r,.int .i64 bit,d5,d6,d7,d8,d9,d10,d11,d12,d13,d14,d15,d16,d17,d18,d19]) 12,RX.nth (root.fin (k+1) [.int .i64 n,d1,z,.int .i64 r,.int .i64 bit,d5,d6,d7,d8,d9,d10,d11,d12,d13,d14,d15,d16,d17,d18,d19]) 13,RX.nth (root.fin (k+1) [.int .i64 n,d1,z,.int .i64 r,.int .i64 bit,d5,d6,d7,d8,d9,d10,d11,d12,d13,d14,d15,d16,d17,d18,d19]) 14,RX.nth (root.fin (k+1) [.int .i64 n,d1,z,.int .i64 r,.int .i64 bit,d5,d6,d7,d8,d9,d10,d11,d12,d13,d14,d15,d16,d17,d18,d19]) 15,RX.nth (root.fin (k+1) [.int .i64 n,d1,z,.int .i64 r,.int .i64 bit,d5,d6,d7,d8,d9,d10,d11,d12,d13,d14,d15,d16,d17,d18,d19]) 16,RX.nth (root.fin (k+1) [.int .i64 n,d1,z,.int .i64 r,.int .i64 bit,d5,d6,d7,d8,d9,d10,d11,d12,d13,d14,d15,d16,d17,d18,d19]) 17,RX.nth (root.fin (k+1) [.int .i64 n,d1,z,.int .i64 r,.int .i64 bit,d5,d6,d7,d8,d9,d10,d11,d12,d13,d14,d15,d16,d17,d18,d19]) 18,RX.nth (root.fin (k+1) [.int .i64 n,d1,z,.int .i64 r,.int .i64 bit,d5,d6,d7,d8,d9,d10,d11,d12,d13,d14,d15,d16,d17,d18,d19]) 19],[],nx⟩
 | 0,n,r,bit,d1,z,d5,d6,d7,d8,d9,d10,d11,d12,d13,d14,d15,d16,d17,d18,d19,nx,hk,hb,hr,hr'=>by
  rw [Pn] at hb
  subst hb
  have ht:root.tree n r 0 d1 z d5 d6 d7 d8 d9 d10 d11 d12 d13 d14 d15 d16 d17 d18 d19=some (.exit 0,[.int .i64 n,d1,z,.int .i64 r,.int .i64 0,d5,.int .i64 0,.bool false,d8,d9,d10,d11,d12,d13,d14,d15,d16,d17,d18,d19],[]):=rfl
  have hf:root.fin 1 [.int .i64 n,d1,z,.int .i64 r,.int .i64 0,d5,d6,d7,d8,d9,d10,d11,d12,d13,d14,d15,d16,d17,d18,d19]=[.int .i64 n,d1,z,.int .i64 r,.int .i64 0,d5,.int .i64 0,.bool false,d8,d9,d10,d11,d12,d13,d14,d15,d16,d17,d18,d19]:=by simp only [root.fin,ht]
  rw [hf]
  simp only [RX.nth,root.rt]
  refine Lp.done ((root.round n r 0 d1 z d5 d6 d7 d8 d9 d10 d11 d12 d13 d14 d15 d16 d17 d18 d19 nx).trans ht) trivial (fun h=>h.of fun v hv=>by
   simp only [List.mem_cons,List.not_mem_nil,or_false] at hv
   rcases hv with rfl|rfl|rfl|rfl|rfl|rfl|rfl|rfl|rfl|rfl|rfl|rfl|rfl|rfl|rfl|rfl|rfl|rfl|rfl|rfl<;>first|exact .inl (clo_spec 8 _ rfl)|exact .inr (by simp))
 | k + 1,n,r,bit,d1,z,d5,d6,d7,d8,d9,d10,d11,d12,d13,d14,d15,d16,d17,d18,d19,nx,hk,hb,hr,hr'=>by
  have hbl:=T3 hk
  have hb0:0<bit:=by rw [hb,KE]; have:=Nat.two_pow_pos k; omega
  have hw:IntKind.i64.wrap (r+bit)=r+bit:=w64 (by omega) (by omega)
  have hbit:bit.fdiv (2^min (Int.toNat 1) IntKind.i64.bits)=Hv k:=by rw [hb]; exact T2 k
  have hd1:decide (bit>0)=true:=decide_eq_true hb0
  have hd2:(IntKind.i64.wrap (r+bit) !=0)=true:=Fh (by omega)
  have h2:2*Hv k≤bit:=by
   rw [hb,KE]
   unfold Hv
   omega
  by_cases hc:IntKind.i64.wrap (r+bit)≤IntKind.i64.wrap (n.tdiv (IntKind.i64.wrap (r+bit)))
  ·have ht:root.tree n r bit d1 z d5 d6 d7 d8 d9 d10 d11 d12 d13 d14 d15 d16 d17 d18 d19=some (.normal,[.int .i64 n,d1,z,.int .i64 (IntKind.i64.wrap (r+bit)),.int .i64 (bit.fdiv (2^min (Int.toNat 1) IntKind.i64.bits)),.int .i64 (IntKind.i64.wrap (r+bit)),.int .i64 bit,.bool true,.int .i64 bit,.int .i64 (bit.fdiv (2^min (Int.toNat 1) IntKind.i64.bits)),.int .i64 r,.int .i64 bit,.int .i64 (IntKind.i64.wrap (r+bit)),.int .i64 (IntKind.i64.wrap (r+bit)),.int .i64 n,.int .i64 (IntKind.i64.wrap (r+bit)),.int .i64 (IntKind.i64.wrap (n.tdiv (IntKind.i64.wrap (r+bit)))),.bool true,.int .i64 (IntKind.i64.wrap (r+bit)),d19],[]):=by
    simp only [root.tree,hd1,hd2,decide_eq_true hc,cond_true]
   have hf:root.fin (k+1+1) [.int .i64 n,d1,z,.int .i64 r,.int .i64 bit,d5,d6,d7,d8,d9,d10,d11,d12,d13,d14,d15,d16,d17,d18,d19]=root.fin (k+1) [.int .i64 n,d1,z,.int .i64 (IntKind.i64.wrap (r+bit)),.int .i64 (bit.fdiv (2^min (Int.toNat 1) IntKind.i64.bits)),.int .i64 (IntKind.i64.wrap (r+bit)),.int .i64 bit,.bool true,.int .i64 bit,.int .i64 (bit.fdiv (2^min (Int.toNat 1) IntKind.i64.bits)),.int .i64 r,.int .i64 bit,.int .i64 (IntKind.i64.wrap (r+bit)),.int .i64 (IntKind.i64.wrap (r+bit)),.int .i64 n,.int .i64 (IntKind.i64.wrap (r+bit)),.int .i64 (IntKind.i64.wrap (n.tdiv (IntKind.i64.wrap (r+bit)))),.bool true,.int .i64 (IntKind.i64.wrap (r+bit)),d19]:=by simp only [root.fin,ht]
   have hrt:root.rt (k+1) n r=root.rt k n (IntKind.i64.wrap (r+bit)):=by
    rw [root.rt,←hb,if_pos hc]
   rw [hf,hrt]
   refine Lp.more ((root.round n r bit d1 z d5 d6 d7 d8 d9 d10 d11 d12 d13 d14 d15 d16 d17 d18 d19 nx).trans ht) (fun h=>h.of fun v hv=>by
   simp only [List.mem_cons,List.not_mem_nil,or_false] at hv
   rcases hv with rfl|rfl|rfl|rfl|rfl|rfl|rfl|rfl|rfl|rfl|rfl|rfl|rfl|rfl|rfl|rfl|rfl|rfl|rfl|rfl<;>first|exact .inl (clo_spec 8 _ rfl)|exact .inr (by simp)) ?_
   exact root.lp k _ _ _ _ _ _ _ _ _ _ _ _ _ _ _ _ _ _ _ _ nx (by omega) hbit (by omega) (by omega)
  ·have ht:root.tree n r bit d1 z d5 d6 d7 d8 d9 d10 d11 d12 d13 d14 d15 d16 d17 d18 d19=some (.normal,[.int .i64 n,d1,z,.int .i64 r,.int .i64 (bit.fdiv (2^min (Int.toNat 1) IntKind.i64.bits)),.int .i64 (IntKind.i64.wrap (r+bit)),.int .i64 bit,.bool true,.int .i64 bit,.int .i64 (bit.fdiv (2^min (Int.toNat 1) IntKind.i64.bits)),.int .i64 r,.int .i64 bit,.int .i64 (IntKind.i64.wrap (r+bit)),.int .i64 (IntKind.i64.wrap (r+bit)),.int .i64 n,.int .i64 (IntKind.i64.wrap (r+bit)),.int .i64 (IntKind.i64.wrap (n.tdiv (IntKind.i64.wrap (r+bit)))),.bool false,d18,d19],[]):=by
    simp only [root.tree,hd1,hd2,decide_eq_false hc,cond_true,cond_false]
   have hf:root.fin (k+1+1) [.int .i64 n,d1,z,.int .i64 r,.int .i64 bit,d5,d6,d7,d8,d9,d10,d11,d12,d13,d14,d15,d16,d17,d18,d19]=root.fin (k+1) [.int .i64 n,d1,z,.int .i64 r,.int .i64 (bit.fdiv (2^min (Int.toNat 1) IntKind.i64.bits)),.int .i64 (IntKind.i64.wrap (r+bit)),.int .i64 bit,.bool true,.int .i64 bit,.int .i64 (bit.fdiv (2^min (Int.toNat 1) IntKind.i64.bits)),.int .i64 r,.int .i64 bit,.int .i64 (IntKind.i64.wrap (r+bit)),.int .i64 (IntKind.i64.wrap (r+bit)),.int .i64 n,.int .i64 (IntKind.i64.wrap (r+bit)),.int .i64 (IntKind.i64.wrap (n.tdiv (IntKind.i64.wrap (r+bit)))),.bool false,d18,d19]:=by simp only [root.fin,ht]
   have hrt:root.rt (k+1) n r=root.rt k n r:=by
    rw [root.rt,←hb,if_neg hc]
   rw [hf,hrt]
   refine Lp.more ((root.round n r bit d1 z d5 d6 d7 d8 d9 d10 d11 d12 d13 d14 d15 d16 d17 d18 d19 nx).trans ht) (fun h=>h.of fun v hv=>by
   simp only [List.mem_cons,List.not_mem_nil,or_false] at hv
   rcases hv with rfl|rfl|rfl|rfl|rfl|rfl|rfl|rfl|rfl|rfl|rfl|rfl|rfl|rfl|rfl|rfl|rfl|rfl|rfl|rfl<;>first|exact .inl (clo_spec 8 _ rfl)|exact .inr (by simp)) ?_
   exact root.lp k _ _ _ _ _ _ _ _ _ _ _ _ _ _ _ _ _ _ _ _ nx (by omega) hbit (by omega) (by omega)
def root.t:LSpec1
 |⟨[.int .i64 n,d1,z,.int .i64 r,.int .i64 bit,d5,d6,d7,d8,d9,d10,d11,d12,d13,d14,d15,d16,d17,d18,d19],[],nx⟩=>some (decide (r=0)&&decide (bit=2147483648),.exit 0,⟨[.int .i64 n,RX.nth (root.fin 33 [.int .i64 n,d1,z,.int .i64 r,.int .i64 bit,d5,d6,d7,d8,d9,d10,d11,d12,d13,d14,d15,d16,d17,d18,d19]) 1,RX.nth (root.fin 33 [.int .i64 n,d1,z,.int .i64 r,.int .i64 bit,d5,d6,d7,d8,d9,d10,d11,d12,d13,d14,d15,d16,d17,d18,d19]) 2,.int .i64 (root.rt 32 n 0),RX.nth (root.fin 33 [.int .i64 n,d1,z,.int .i64 r,.int .i64 bit,d5,d6,d7,d8,d9,d10,d11,d12,d13,d14,d15,d16,d17,d18,d19]) 4,RX.nth (root.fin 33 [.int .i64 n,d1,z,.int .i64 r,.int .i64 bit,d5,d6,d7,d8,d9,d10,d11,d12,d13,d14,d15,d16,d17,d18,d19]) 5,RX.nth (root.fin 33 [.int .i64 n,d1,z,.int .i64 r,.int .i64 bit,d5,d6,d7,d8,d9,d10,d11,d12,d13,d14,d15,d16,d17,d18,d19]) 6,RX.nth (root.fin 33 [.int .i64 n,d1,z,.int .i64 r,.int .i64 bit,d5,d6,d7,d8,d9,d10,d11,d12,d13,d14,d15,d16,d17,d18,d19]) 7,RX.nth (root.fin 33 [.int .i64 n,d1,z,.int .i64 r,.int .i64 bit,d5,d6,d7,d8,d9,d10,d11,d12,d13,d14,d15,d16,d17,d18,d19]) 8,RX.nth (root.fin 33 [.int .i64 n,d1,z,.int .i64 r,.int .i64 bit,d5,d6,d7,d8,d9,d10,d11,d12,d13,d14,d15,d16,d17,d18,d19]) 9,RX.nth (root.fin 33 [.int .i64 n,d1,z,.int .i64 r,.int .i64 bit,d5,d6,d7,d8,d9,d10,d11,d12,d13,d14,d15,d16,d17,d18,d19]) 10,RX.nth (root.fin 33 [.int .i64 n,d1,z,.int .i64 r,.int .i64 bit,d5,d6,d7,d8,d9,d10,d11,d12,d13,d14,d15,d16,d17,d18,d19]) 11,RX.nth (root.fin 33 [.int .i64 n,d1,z,.int .i64 r,.int .i64 bit,d5,d6,d7,d8,d9,d10,d11,d12,d13,d14,d15,d16,d17,d18,d19]) 12,RX.nth (root.fin 33 [.int .i64 n,d1,z,.int .i64 r,.int .i64 bit,d5,d6,d7,d8,d9,d10,d11,d12,d13,d14,d15,d16,d17,d18,d19]) 13,RX.nth (root.fin 33 [.int .i64 n,d1,z,.int .i64 r,.int .i64 bit,d5,d6,d7,d8,d9,d10,d11,d12,d13,d14,d15,d16,d17,d18,d19]) 14,RX.nth (root.fin 33 [.int .i64 n,d1,z,.int .i64 r,.int .i64 bit,d5,d6,d7,d8,d9,d10,d11,d12,d13,d14,d15,d16,d17,d18,d19]) 15,RX.nth (root.fin 33 [.int .i64 n,d1,z,.int .i64 r,.int .i64 bit,d5,d6,d7,d8,d9,d10,d11,d12,d13,d14,d15,d16,d17,d18,d19]) 16,RX.nth (root.fin 33 [.int .i64 n,d1,z,.int .i64 r,.int .i64 bit,d5,d6,d7,d8,d9,d10,d11,d12,d13,d14,d15,d16,d17,d18,d19]) 17,RX.nth (root.fin 33 [.int .i64 n,d1,z,.int .i64 r,.int .i64 bit,d5,d6,d7,d8,d9,d10,d11,d12,d13,d14,d15,d16,d17,d18,d19]) 18,RX.nth (root.fin 33 [.int .i64 n,d1,z,.int .i64 r,.int .i64 bit,d5,d6,d7,d8,d9,d10,d11,d12,d13,d14,d15,d16,d17,d18,d19]) 19],[],nx⟩)
 |_=>none
theorem root.lok:LOK Tryz.prog (Ag Tryz.f80 0) (one1 root.t):=by
 refine lok_of (E:=⟨[],[],[]⟩) (L:=[]) (f:=3) ⟨Ac,Ai,Ad,Ah⟩ Ba fun S x S' h=> ?_
 unfold root.t at h
 split at h
 ·simp only [Option.some.injEq,Prod.mk.injEq,Bool.and_eq_true,decide_eq_true_eq] at h
  obtain ⟨⟨rfl,rfl⟩,rfl,rfl⟩:=h
  exact root.lp 32 _ _ _ _ _ _ _ _ _ _ _ _ _ _ _ _ _ _ _ _ _ (by omega) (by decide) (by omega) (by omega)
 ·cases h
def Gz.sp:HSpec
 |[.int .i64 n],[]=>some (true,.int .i64 (root.rt 32 n 0),[])
 |_,_=>none
theorem root.run (n:Int):xfn Tryz.prog ⟨[],[],[]⟩ [(0,one1 root.t)] 10 Tryz.f80 [.int .i64 n] []=some (.int .i64 (root.rt 32 n 0),[]):=by kernel_rfl
theorem Gz.ok:SOK Tryz.prog 80 Gz.sp:=by
 refine Cq (E:=⟨[],[],[]⟩) (L:=[(0,one1 root.t)]) ⟨Ac,Ai,Ad,Ah⟩ 10 Tryz.func80 (by decide) rfl (Fy rfl rfl root.lok) fun vs bl v bl' h=> ?_
 unfold Gz.sp at h
 split at h
 ·simp only [Option.some.injEq,Prod.mk.injEq,true_and] at h
  obtain ⟨rfl,rfl⟩:=h
  exact ⟨root.run _,by simp [okV,Nat.blt],clo_spec 8 _ rfl,As rfl⟩
 ·cases h
end Go.Proofs.YtphlckkbihmlnaaGreatDoor.G
end
