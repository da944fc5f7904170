/- A part of what the law's proof leans on. PACKED BY pack.py of this repo. -/
import Derived.Test.YtphlckkbihmlnaaGreatDoorK14
set_option linter.unusedVariables false
set_option linter.unusedSimpArgs false
set_option linter.unusedSectionVars false
set_option linter.defProp false
set_option maxRecDepth 100000
open Go.IntKind (i64 u64 u32)
section
namespace Go.Proofs.YtphlckkbihmlnaaGreatDoor.G
open Go Go.Proofs Go.RowKit RX
section
variable {R:Type} (CN:TF5 (Bool)) (CM:TF5 Bool) (A2:Bool) (A3:ByteArray) (A8:Bool) (A7:ByteArray) (A6:Bool) (A9:ByteArray) (AB:Bool) (AA:ByteArray) (AD:Bool) (AC:ByteArray) (BK:Bool) (BJ:ByteArray) (BI:Bool) (BH:ByteArray) (BG:Bool) (BF:ByteArray) (BE:Bool) (BD:ByteArray) (BC:Bool) (BB:ByteArray) (BA:Bool) (B9:ByteArray) (B8:Bool) (B7:ByteArray) (B6:Bool) (B5:ByteArray) (B4:Bool) (B3:ByteArray) (B2:Bool) (AZ:ByteArray)
noncomputable def Bo.K (k:(Bool)→Option R):Option R:=
 let t0:=CM A2 A3 A8 A7 A6 A9 AB AA AD AC
 bif t0 then
 let t1:=CN A2 A3 A8 A7 A6 A9 AB AA AD AC
 bif t1 then
 let t2:=CM BK BJ BI BH BG BF BE BD BC BB
 bif t2 then
 let t3:=CN BK BJ BI BH BG BF BE BD BC BB
 bif t3 then
 let t4:=CM BA B9 B8 B7 B6 B5 B4 B3 B2 AZ
 bif t4 then
 let t5:=CN BA B9 B8 B7 B6 B5 B4 B3 B2 AZ
 k (t5) else none else k (false) else none else k (false) else none
theorem Bo.run:xfn Tryz.prog ⟨[(58,Af.sp CN CM)],[],[]⟩ [] 60 Tryz.f59 [.agg ⟨[.bool A2,.string A3,.bool A8,.string A7,.bool A6,.string A9,.bool AB,.string AA,.bool AD,.string AC,.bool BK,.string BJ,.bool BI,.string BH,.bool BG,.string BF,.bool BE,.string BD,.bool BC,.string BB,.bool BA,.string B9,.bool B8,.string B7,.bool B6,.string B5,.bool B4,.string B3,.bool B2,.string AZ]⟩] []=Bo.K CN CM A2 A3 A8 A7 A6 A9 AB AA AD AC BK BJ BI BH BG BF BE BD BC BB BA B9 B8 B7 B6 B5 B4 B3 B2 AZ (fun r=>some (.bool r,[])):=by kernel_rfl
noncomputable def Bo.o:Option (Bool):=Bo.K Af Af.pre A2 A3 A8 A7 A6 A9 AB AA AD AC BK BJ BI BH BG BF BE BD BC BB BA B9 B8 B7 B6 B5 B4 B3 B2 AZ some
noncomputable def Bo.pre:Bool:=(Bo.o A2 A3 A8 A7 A6 A9 AB AA AD AC BK BJ BI BH BG BF BE BD BC BB BA B9 B8 B7 B6 B5 B4 B3 B2 AZ).isSome
noncomputable def Bo:Bool:=(Bo.o A2 A3 A8 A7 A6 A9 AB AA AD AC BK BJ BI BH BG BF BE BD BC BB BA B9 B8 B7 B6 B5 B4 B3 B2 AZ).getD default
theorem Bo.nat (k:(Bool)→Option R):Bo.K CN CM A2 A3 A8 A7 A6 A9 AB AA AD AC BK BJ BI BH BG BF BE BD BC BB BA B9 B8 B7 B6 B5 B4 B3 B2 AZ k=(Bo.K CN CM A2 A3 A8 A7 A6 A9 AB AA AD AC BK BJ BI BH BG BF BE BD BC BB BA B9 B8 B7 B6 B5 B4 B3 B2 AZ some).bind k:=by
 simp only [Bo.K,bcond,Option.bind_some,Option.bind_none]
end
structure Q.Le (m:Nat) (q:Q):Prop where
 c0:q.c0.natAbs≤m
 c1:q.c1.natAbs≤m
 c2:q.c2.natAbs≤m
 c3:q.c3.natAbs≤m
 d:q.d.natAbs≤m
theorem Q.Le.mono {m n:Nat} {q:Q} (h:q.Le m) (hm:m≤n):q.Le n:=⟨Nat.le_trans h.c0 hm,Nat.le_trans h.c1 hm,Nat.le_trans h.c2 hm,Nat.le_trans h.c3 hm,Nat.le_trans h.d hm⟩
theorem n5_gg (c0 c1 c2 c3 d:Int):gI (gI (gI (gI (gI 0 c0) c1) c2) c3) d=gg c0 c1 c2 c3 d:=by
 obtain ⟨d4,d0,d1,d2,d3⟩:=OT c0 c1 c2 c3 d
 have h1:=Is (Is (Is (Is (Is (Int.dvd_zero _) d0) d1) d2) d3) d4
 have e4:=NC (gI (gI (gI (gI 0 c0) c1) c2) c3) d
 have e3:=NC (gI (gI (gI 0 c0) c1) c2) c3
 have e2:=NC (gI (gI 0 c0) c1) c2
 have e1:=NC (gI 0 c0) c1
 have e0:=NC 0 c0
 have h2:=dvd_gg e4.2 (Int.dvd_trans e4.1 (Int.dvd_trans e3.1 (Int.dvd_trans e2.1 (Int.dvd_trans e1.1 e0.2)))) (Int.dvd_trans e4.1 (Int.dvd_trans e3.1 (Int.dvd_trans e2.1 e1.2))) (Int.dvd_trans e4.1 (Int.dvd_trans e3.1 e2.2)) (Int.dvd_trans e4.1 e3.2)
 have h3:=Lm c0 c1 c2 c3 d
 have h4:=IQ (gI (gI (gI (gI 0 c0) c1) c2) c3) d
 have h5:=Nat.dvd_antisymm (Int.natAbs_dvd_natAbs.2 h2) (Int.natAbs_dvd_natAbs.2 h1)
 omega
theorem Kg {c:Int} (h:c.natAbs≤16777215):wdok (dI c).1 (dI c).2=true:=by
 have e:p8 3=16777216:=by decide
 have:(dI c).2.size≤3:=Il (k:=3) (by unfold Bd; omega)
 simp [wdok,Nat.ble_eq_true_of_le this]
theorem SA {q:Q} (h:q.Le 16777215):Fc (dI q.c0).1 (dI q.c0).2 (dI q.c1).1 (dI q.c1).2 (dI q.c2).1 (dI q.c2).2 (dI q.c3).1 (dI q.c3).2 (dI q.d).1 (dI q.d).2=(q.c0,q.c1,q.c2,q.c3,q.d,true):=by
 simp only [Fc,Kg h.c0,Kg h.c1,Kg h.c2,Kg h.c3,Kg h.d,ID,Bool.and_self,cond_true]
theorem Kf {x:Int} (h:x.natAbs≤4611686018427387904):wgok x=true:=by simp only [wgok,zB,zD]; omega
theorem RZ {q:Q} (h:q.Le 4611686018427387904):Eh.pre q.c0 q.c1 q.c2 q.c3 q.d=true:=by
 simp only [Eh.pre,Kf h.c0,Kf h.c1,Kf h.c2,Kf h.c3,Kf h.d,Bool.and_self]
theorem Sb (q:Q):Eh q.c0 q.c1 q.c2 q.c3 q.d=q.g:=n5_gg _ _ _ _ _
theorem Af.os {q:Q} (h:q.Le 16777215):Af.o (dI q.c0).1 (dI q.c0).2 (dI q.c1).1 (dI q.c1).2 (dI q.c2).1 (dI q.c2).2 (dI q.c3).1 (dI q.c3).2 (dI q.d).1 (dI q.d).2=some q.ok:=by
 simp only [Af.o,Af.K,SA h,cond_true,RZ (h.mono (by decide)),Sb]
 unfold Q.ok
 by_cases p:0<q.d
 ·rw [decide_eq_true (show q.d>0 from p),cond_true,Bool.true_and]
 ·rw [decide_eq_false (show ¬q.d>0 from p),cond_false,Bool.false_and]
theorem Af.ps {q:Q} (h:q.Le 16777215):Af.pre (dI q.c0).1 (dI q.c0).2 (dI q.c1).1 (dI q.c1).2 (dI q.c2).1 (dI q.c2).2 (dI q.c3).1 (dI q.c3).2 (dI q.d).1 (dI q.d).2=true:=Fk (Af.os h)
theorem Af.es {q:Q} (h:q.Le 16777215):Af (dI q.c0).1 (dI q.c0).2 (dI q.c1).1 (dI q.c1).2 (dI q.c2).1 (dI q.c2).2 (dI q.c3).1 (dI q.c3).2 (dI q.d).1 (dI q.d).2=q.ok:=GT (Af.os h)
theorem Bo.os {x y z:Q} (hx:x.Le 16777215) (hy:y.Le 16777215) (hz:z.Le 16777215):Bo.o (dI x.c0).1 (dI x.c0).2 (dI x.c1).1 (dI x.c1).2 (dI x.c2).1 (dI x.c2).2 (dI x.c3).1 (dI x.c3).2 (dI x.d).1 (dI x.d).2 (dI y.c0).1 (dI y.c0).2 (dI y.c1).1 (dI y.c1).2 (dI y.c2).1 (dI y.c2).2 (dI y.c3).1 (dI y.c3).2 (dI y.d).1 (dI y.d).2 (dI z.c0).1 (dI z.c0).2 (dI z.c1).1 (dI z.c1).2 (dI z.c2).1 (dI z.c2).2 (dI z.c3).1 (dI z.c3).2 (dI z.d).1 (dI z.d).2=some (x.ok&&(y.ok&&z.ok)):=by
 simp only [Bo.o,Bo.K,Af.ps hx,Af.es hx,Af.ps hy,Af.es hy,Af.ps hz,Af.es hz,cond_true]
 cases x.ok<;>cases y.ok<;>rfl
theorem Bo.ps {x y z:Q} (hx:x.Le 16777215) (hy:y.Le 16777215) (hz:z.Le 16777215):Bo.pre (dI x.c0).1 (dI x.c0).2 (dI x.c1).1 (dI x.c1).2 (dI x.c2).1 (dI x.c2).2 (dI x.c3).1 (dI x.c3).2 (dI x.d).1 (dI x.d).2 (dI y.c0).1 (dI y.c0).2 (dI y.c1).1 (dI y.c1).2 (dI y.c2).1 (dI y.c2).2 (dI y.c3).1 (dI y.c3).2 (dI y.d).1 (dI y.d).2 (dI z.c0).1 (dI z.c0).2 (dI z.c1).1 (dI z.c1).2 (dI z.c2).1 (dI z.c2).2 (dI z.c3).1 (dI z.c3).2 (dI z.d).1 (dI z.d).2=true:=Fk (Bo.os hx hy hz)
theorem Bo.es {x y z:Q} (hx:x.Le 16777215) (hy:y.Le 16777215) (hz:z.Le 16777215):Bo (dI x.c0).1 (dI x.c0).2 (dI x.c1).1 (dI x.c1).2 (dI x.c2).1 (dI x.c2).2 (dI x.c3).1 (dI x.c3).2 (dI x.d).1 (dI x.d).2 (dI y.c0).1 (dI y.c0).2 (dI y.c1).1 (dI y.c1).2 (dI y.c2).1 (dI y.c2).2 (dI y.c3).1 (dI y.c3).2 (dI y.d).1 (dI y.d).2 (dI z.c0).1 (dI z.c0).2 (dI z.c1).1 (dI z.c1).2 (dI z.c2).1 (dI z.c2).2 (dI z.c3).1 (dI z.c3).2 (dI z.d).1 (dI z.d).2=(x.ok&&(y.ok&&z.ok)):=GT (Bo.os hx hy hz)
theorem Bo.ok:SOK Tryz.prog 59 (Bo.sp Bo Bo.pre):=by
 refine Cu (E:=⟨[(58,Af.sp Af Af.pre)],[],[]⟩) (L:=[]) ⟨(Aa Af.ok Ac),Ai,Ad,Ah⟩ 60 Tryz.func59 (by decide) rfl Bv fun vs bl v bl' h=> ?_
 unfold Bo.sp at h
 split at h
 ·rename_i A2 A3 A8 A7 A6 A9 AB AA AD AC BK BJ BI BH BG BF BE BD BC BB BA B9 B8 B7 B6 B5 B4 B3 B2 AZ
  simp only [zS,zP] at h
  obtain ⟨hp,rfl,rfl⟩:=h
  have hr:=Bo.run Af Af.pre A2 A3 A8 A7 A6 A9 AB AA AD AC BK BJ BI BH BG BF BE BD BC BB BA B9 B8 B7 B6 B5 B4 B3 B2 AZ
  rw [Bo.nat] at hr
  obtain ⟨r,h2⟩:=Option.isSome_iff_exists.1 (hp:(Bo.o A2 A3 A8 A7 A6 A9 AB AA AD AC BK BJ BI BH BG BF BE BD BC BB BA B9 B8 B7 B6 B5 B4 B3 B2 AZ).isSome=true)
  have h3:Bo A2 A3 A8 A7 A6 A9 AB AA AD AC BK BJ BI BH BG BF BE BD BC BB BA B9 B8 B7 B6 B5 B4 B3 B2 AZ=r:=by unfold Bo; rw [h2]; rfl
  have h4:Bo.K Af Af.pre A2 A3 A8 A7 A6 A9 AB AA AD AC BK BJ BI BH BG BF BE BD BC BB BA B9 B8 B7 B6 B5 B4 B3 B2 AZ some=some r:=h2
  rw [h4,Option.bind_some] at hr
  rw [h3]
  exact ⟨hr,by simp [okV,Nat.blt],clo_spec 8 _ (by kernel_rfl),Ay (by kernel_rfl)⟩
 ·cases h
section
variable {R:Type} (D0:Int→(Bool×ByteArray)) (CZ:Int→Bool) (a0:Int)
noncomputable def Cg.K (k:TY5→Option R):Option R:=
 let t0:=CZ a0
 bif t0 then
 let t1:=CZ 1
 bif t1 then
 let t2:=D0 a0
 let t3:=D0 1
 k (t2.1,t2.2,false,{data:= #[]},false,{data:= #[]},false,{data:= #[]},t3.1,t3.2) else none else none
theorem Cg.run:xfn Tryz.prog ⟨[(55,Cb.sp D0 CZ)],[],[]⟩ [] 60 Tryz.f116 [.int .i64 a0] []=Cg.K D0 CZ a0 (fun r=>some (.agg ⟨[.bool r.1,.string r.2.1,.bool r.2.2.1,.string r.2.2.2.1,.bool r.2.2.2.2.1,.string r.2.2.2.2.2.1,.bool r.2.2.2.2.2.2.1,.string r.2.2.2.2.2.2.2.1,.bool r.2.2.2.2.2.2.2.2.1,.string r.2.2.2.2.2.2.2.2.2]⟩,[])):=by kernel_rfl
noncomputable def Cg.o (a0:Int):Option (TY5):=Cg.K Cb Cb.pre a0 some
noncomputable def Cg.pre (a0:Int):Bool:=(Cg.o a0).isSome
noncomputable def Cg (a0:Int):TY5:=(Cg.o a0).getD default
theorem Cg.nat (k:TY5→Option R):Cg.K D0 CZ a0 k=(Cg.K D0 CZ a0 some).bind k:=by
 simp only [Cg.K,bcond,Option.bind_some,Option.bind_none]
theorem Cg.os {n:Int} (h: -9223372036854775808≤n) (h':n≤9223372036854775807):Cg.o n=some (C5 (qof n)):=by
 have p:Cb.pre n=true:=by simp [Cb.pre,h,h']
 simp only [Cg.o,Cg.K,p,show Cb.pre 1=true from rfl,show Cb n=dI n from rfl,show Cb 1=dI 1 from rfl,cond_true,C5,qof,MS]
theorem Cg.ps {n:Int} (h: -9223372036854775808≤n) (h':n≤9223372036854775807):Cg.pre n=true:=Fk (Cg.os h h')
theorem Cg.es {n:Int} (h: -9223372036854775808≤n) (h':n≤9223372036854775807):Cg n=C5 (qof n):=GT (Cg.os h h')
end
theorem Cg.ok:SOK Tryz.prog 116 (Cg.sp Cg Cg.pre):=by
 refine Cu (E:=⟨[(55,Cb.sp Cb Cb.pre)],[],[]⟩) (L:=[]) ⟨(Aa Cb.ok Ac),Ai,Ad,Ah⟩ 60 Tryz.func116 (by decide) rfl Bv fun vs bl v bl' h=> ?_
 unfold Cg.sp at h
 split at h
 ·rename_i a0
  simp only [zS,zP] at h
  obtain ⟨hp,rfl,rfl⟩:=h
  have hr:=Cg.run Cb Cb.pre a0
  rw [Cg.nat] at hr
  obtain ⟨r,h2⟩:=Option.isSome_iff_exists.1 (hp:(Cg.o a0).isSome=true)
  have h3:Cg a0=r:=by unfold Cg; rw [h2]; rfl
  have h4:Cg.K Cb Cb.pre a0 some=some r:=h2
  rw [h4,Option.bind_some] at hr
  rw [h3]
  exact ⟨hr,by simp [okV,Nat.blt],clo_spec 8 _ (by kernel_rfl),Ay (by kernel_rfl)⟩
 ·cases h
section
variable {R:Type} (EZ:Int→(TY5)) (EY:Int→Bool) (a0:Int) (a1:Int) (a2:Int)
noncomputable def Cf.K (k:TY15→Option R):Option R:=
 let t0:=EY a0
 bif t0 then
 let t1:=EY a1
 bif t1 then
 let t2:=EY a2
 bif t2 then
 let t3:=EZ a0
 let t4:=EZ a1
 let t5:=EZ a2
 k (t3.1,t3.2.1,t3.2.2.1,t3.2.2.2.1,t3.2.2.2.2.1,t3.2.2.2.2.2.1,t3.2.2.2.2.2.2.1,t3.2.2.2.2.2.2.2.1,t3.2.2.2.2.2.2.2.2.1,t3.2.2.2.2.2.2.2.2.2,t4.1,t4.2.1,t4.2.2.1,t4.2.2.2.1,t4.2.2.2.2.1,t4.2.2.2.2.2.1,t4.2.2.2.2.2.2.1,t4.2.2.2.2.2.2.2.1,t4.2.2.2.2.2.2.2.2.1,t4.2.2.2.2.2.2.2.2.2,t5.1,t5.2.1,t5.2.2.1,t5.2.2.2.1,t5.2.2.2.2.1,t5.2.2.2.2.2.1,t5.2.2.2.2.2.2.1,t5.2.2.2.2.2.2.2.1,t5.2.2.2.2.2.2.2.2.1,t5.2.2.2.2.2.2.2.2.2) else none else none else none
theorem Cf.run:xfn Tryz.prog ⟨[(116,Cg.sp EZ EY)],[],[]⟩ [] 60 Tryz.f93 [.int .i64 a0,.int .i64 a1,.int .i64 a2] []=Cf.K EZ EY a0 a1 a2 (fun r=>some (.agg ⟨[.bool r.1,.string r.2.1,.bool r.2.2.1,.string r.2.2.2.1,.bool r.2.2.2.2.1,.string r.2.2.2.2.2.1,.bool r.2.2.2.2.2.2.1,.string r.2.2.2.2.2.2.2.1,.bool r.2.2.2.2.2.2.2.2.1,.string r.2.2.2.2.2.2.2.2.2.1,.bool r.2.2.2.2.2.2.2.2.2.2.1,.string r.2.2.2.2.2.2.2.2.2.2.2.1,.bool r.2.2.2.2.2.2.2.2.2.2.2.2.1,.string r.2.2.2.2.2.2.2.2.2.2.2.2.2.1,.bool r.2.2.2.2.2.2.2.2.2.2.2.2.2.2.1,.string r.2.2.2.2.2.2.2.2.2.2.2.2.2.2.2.1,.bool r.2.2.2.2.2.2.2.2.2.2.2.2.2.2.2.2.1,.string r.2.2.2.2.2.2.2.2.2.2.2.2.2.2.2.2.2.1,.bool r.2.2.2.2.2.2.2.2.2.2.2.2.2.2.2.2.2.2.1,.string r.2.2.2.2.2.2.2.2.2.2.2.2.2.2.2.2.2.2.2.1,.bool r.2.2.2.2.2.2.2.2.2.2.2.2.2.2.2.2.2.2.2.2.1,.string r.2.2.2.2.2.2.2.2.2.2.2.2.2.2.2.2.2.2.2.2.2.1,.bool r.2.2.2.2.2.2.2.2.2.2.2.2.2.2.2.2.2.2.2.2.2.2.1,.string r.2.2.2.2.2.2.2.2.2.2.2.2.2.2.2.2.2.2.2.2.2.2.2.1,.bool r.2.2.2.2.2.2.2.2.2.2.2.2.2.2.2.2.2.2.2.2.2.2.2.2.1,.string r.2.2.2.2.2.2.2.2.2.2.2.2.2.2.2.2.2.2.2.2.2.2.2.2.2.1,.bool r.2.2.2.2.2.2.2.2.2.2.2.2.2.2.2.2.2.2.2.2.2.2.2.2.2.2.1,.string r.2.2.2.2.2.2.2.2.2.2.2.2.2.2.2.2.2.2.2.2.2.2.2.2.2.2.2.1,.bool r.2.2.2.2.2.2.2.2.2.2.2.2.2.2.2.2.2.2.2.2.2.2.2.2.2.2.2.2.1,.string r.2.2.2.2.2.2.2.2.2.2.2.2.2.2.2.2.2.2.2.2.2.2.2.2.2.2.2.2.2]⟩,[])):=by kernel_rfl
noncomputable def Cf.o:Option (TY15):=Cf.K Cg Cg.pre a0 a1 a2 some
noncomputable def Cf.pre:Bool:=(Cf.o a0 a1 a2).isSome
noncomputable def Cf:TY15:=(Cf.o a0 a1 a2).getD default
theorem Cf.nat (k:TY15→Option R):Cf.K EZ EY a0 a1 a2 k=(Cf.K EZ EY a0 a1 a2 some).bind k:=by
 simp only [Cf.K,bcond,Option.bind_some,Option.bind_none]
end
theorem Cf.os:Cf.o 0 0 0=some ((dI (qof 0).c0).1,(dI (qof 0).c0).2,(dI (qof 0).c1).1,(dI (qof 0).c1).2,(dI (qof 0).c2).1,(dI (qof 0).c2).2,(dI (qof 0).c3).1,(dI (qof 0).c3).2,(dI (qof 0).d).1,(dI (qof 0).d).2,(dI (qof 0).c0).1,(dI (qof 0).c0).2,(dI (qof 0).c1).1,(dI (qof 0).c1).2,(dI (qof 0).c2).1,(dI (qof 0).c2).2,(dI (qof 0).c3).1,(dI (qof 0).c3).2,(dI (qof 0).d).1,(dI (qof 0).d).2,(dI (qof 0).c0).1,(dI (qof 0).c0).2,(dI (qof 0).c1).1,(dI (qof 0).c1).2,(dI (qof 0).c2).1,(dI (qof 0).c2).2,(dI (qof 0).c3).1,(dI (qof 0).c3).2,(dI (qof 0).d).1,(dI (qof 0).d).2):=by
 have p:=Cg.ps (n:=0) (by decide) (by decide)
 have e:=Cg.es (n:=0) (by decide) (by decide)
 simp only [Cf.o,Cf.K,p,e,cond_true]
 rfl
theorem Cf.ps:Cf.pre 0 0 0=true:=Fk Cf.os
theorem Cf.es:Cf 0 0 0=((dI (qof 0).c0).1,(dI (qof 0).c0).2,(dI (qof 0).c1).1,(dI (qof 0).c1).2,(dI (qof 0).c2).1,(dI (qof 0).c2).2,(dI (qof 0).c3).1,(dI (qof 0).c3).2,(dI (qof 0).d).1,(dI (qof 0).d).2,(dI (qof 0).c0).1,(dI (qof 0).c0).2,(dI (qof 0).c1).1,(dI (qof 0).c1).2,(dI (qof 0).c2).1,(dI (qof 0).c2).2,(dI (qof 0).c3).1,(dI (qof 0).c3).2,(dI (qof 0).d).1,(dI (qof 0).d).2,(dI (qof 0).c0).1,(dI (qof 0).c0).2,(dI (qof 0).c1).1,(dI (qof 0).c1).2,(dI (qof 0).c2).1,(dI (qof 0).c2).2,(dI (qof 0).c3).1,(dI (qof 0).c3).2,(dI (qof 0).d).1,(dI (qof 0).d).2):=GT Cf.os
theorem Cf.ok:SOK Tryz.prog 93 (Cf.sp Cf Cf.pre):=by
 refine Cu (E:=⟨[(116,Cg.sp Cg Cg.pre)],[],[]⟩) (L:=[]) ⟨(Aa Cg.ok Ac),Ai,Ad,Ah⟩ 60 Tryz.func93 (by decide) rfl Bv fun vs bl v bl' h=> ?_
 unfold Cf.sp at h
 split at h
 ·rename_i a0 a1 a2
  simp only [zS,zP] at h
  obtain ⟨hp,rfl,rfl⟩:=h
  have hr:=Cf.run Cg Cg.pre a0 a1 a2
  rw [Cf.nat] at hr
  obtain ⟨r,h2⟩:=Option.isSome_iff_exists.1 (hp:(Cf.o a0 a1 a2).isSome=true)
  have h3:Cf a0 a1 a2=r:=by unfold Cf; rw [h2]; rfl
  have h4:Cf.K Cg Cg.pre a0 a1 a2 some=some r:=h2
  rw [h4,Option.bind_some] at hr
  rw [h3]
  exact ⟨hr,by simp [okV,Nat.blt],clo_spec 8 _ (by kernel_rfl),Ay (by kernel_rfl)⟩
 ·cases h
section
variable {R:Type} (FS:Int→Int→Int→(TY15)) (FP:Int→Int→Int→Bool) (A2:Bool) (A3:ByteArray) (A8:Bool) (A7:ByteArray) (A6:Bool) (A9:ByteArray) (AB:Bool) (AA:ByteArray) (AD:Bool) (AC:ByteArray) (BK:Bool) (BJ:ByteArray) (BI:Bool) (BH:ByteArray) (BG:Bool) (BF:ByteArray) (BE:Bool) (BD:ByteArray) (BC:Bool) (BB:ByteArray) (BA:Bool) (B9:ByteArray) (B8:Bool) (B7:ByteArray) (B6:Bool) (B5:ByteArray) (B4:Bool) (B3:ByteArray) (B2:Bool) (AZ:ByteArray)
noncomputable def Bt.K (k:(Bool)→Option R):Option R:=
 let t0:=FP 0 0 0
 bif t0 then
 let t1:=FS 0 0 0
 k (A2==t1.1&&A3.toList==t1.2.1.toList&&(A8==t1.2.2.1&&A7.toList==t1.2.2.2.1.toList&&(A6==t1.2.2.2.2.1&&A9.toList==t1.2.2.2.2.2.1.toList&&(AB==t1.2.2.2.2.2.2.1&&AA.toList==t1.2.2.2.2.2.2.2.1.toList)))&&(AD==t1.2.2.2.2.2.2.2.2.1&&AC.toList==t1.2.2.2.2.2.2.2.2.2.1.toList)&&(BK==t1.2.2.2.2.2.2.2.2.2.2.1&&BJ.toList==t1.2.2.2.2.2.2.2.2.2.2.2.1.toList&&(BI==t1.2.2.2.2.2.2.2.2.2.2.2.2.1&&BH.toList==t1.2.2.2.2.2.2.2.2.2.2.2.2.2.1.toList&&(BG==t1.2.2.2.2.2.2.2.2.2.2.2.2.2.2.1&&BF.toList==t1.2.2.2.2.2.2.2.2.2.2.2.2.2.2.2.1.toList&&(BE==t1.2.2.2.2.2.2.2.2.2.2.2.2.2.2.2.2.1&&BD.toList==t1.2.2.2.2.2.2.2.2.2.2.2.2.2.2.2.2.2.1.toList)))&&(BC==t1.2.2.2.2.2.2.2.2.2.2.2.2.2.2.2.2.2.2.1&&BB.toList==t1.2.2.2.2.2.2.2.2.2.2.2.2.2.2.2.2.2.2.2.1.toList)&&(BA==t1.2.2.2.2.2.2.2.2.2.2.2.2.2.2.2.2.2.2.2.2.1&&B9.toList==t1.2.2.2.2.2.2.2.2.2.2.2.2.2.2.2.2.2.2.2.2.2.1.toList&&(B8==t1.2.2.2.2.2.2.2.2.2.2.2.2.2.2.2.2.2.2.2.2.2.2.1&&B7.toList==t1.2.2.2.2.2.2.2.2.2.2.2.2.2.2.2.2.2.2.2.2.2.2.2.1.toList&&(B6==t1.2.2.2.2.2.2.2.2.2.2.2.2.2.2.2.2.2.2.2.2.2.2.2.2.1&&B5.toList==t1.2.2.2.2.2.2.2.2.2.2.2.2.2.2.2.2.2.2.2.2.2.2.2.2.2.1.toList&&(B4==t1.2.2.2.2.2.2.2.2.2.2.2.2.2.2.2.2.2.2.2.2.2.2.2.2.2.2.1&&B3.toList==t1.2.2.2.2.2.2.2.2.2.2.2.2.2.2.2.2.2.2.2.2.2.2.2.2.2.2.2.1.toList)))&&(B2==t1.2.2.2.2.2.2.2.2.2.2.2.2.2.2.2.2.2.2.2.2.2.2.2.2.2.2.2.2.1&&AZ.toList==t1.2.2.2.2.2.2.2.2.2.2.2.2.2.2.2.2.2.2.2.2.2.2.2.2.2.2.2.2.2.toList)))) else none
theorem Bt.run:xfn Tryz.prog ⟨[(93,Cf.sp FS FP)],[],[]⟩ [] 60 Tryz.f60 [.agg ⟨[.bool A2,.string A3,.bool A8,.string A7,.bool A6,.string A9,.bool AB,.string AA,.bool AD,.string AC,.bool BK,.string BJ,.bool BI,.string BH,.bool BG,.string BF,.bool BE,.string BD,.bool BC,.string BB,.bool BA,.string B9,.bool B8,.string B7,.bool B6,.string B5,.bool B4,.string B3,.bool B2,.string AZ]⟩] []=Bt.K FS FP A2 A3 A8 A7 A6 A9 AB AA AD AC BK BJ BI BH BG BF BE BD BC BB BA B9 B8 B7 B6 B5 B4 B3 B2 AZ (fun r=>some (.bool r,[])):=by kernel_rfl
noncomputable def Bt.o:Option (Bool):=Bt.K Cf Cf.pre A2 A3 A8 A7 A6 A9 AB AA AD AC BK BJ BI BH BG BF BE BD BC BB BA B9 B8 B7 B6 B5 B4 B3 B2 AZ some
noncomputable def Bt.pre:Bool:=(Bt.o A2 A3 A8 A7 A6 A9 AB AA AD AC BK BJ BI BH BG BF BE BD BC BB BA B9 B8 B7 B6 B5 B4 B3 B2 AZ).isSome
noncomputable def Bt:Bool:=(Bt.o A2 A3 A8 A7 A6 A9 AB AA AD AC BK BJ BI BH BG BF BE BD BC BB BA B9 B8 B7 B6 B5 B4 B3 B2 AZ).getD default
theorem Bt.nat (k:(Bool)→Option R):Bt.K FS FP A2 A3 A8 A7 A6 A9 AB AA AD AC BK BJ BI BH BG BF BE BD BC BB BA B9 B8 B7 B6 B5 B4 B3 B2 AZ k=(Bt.K FS FP A2 A3 A8 A7 A6 A9 AB AA AD AC BK BJ BI BH BG BF BE BD BC BB BA B9 B8 B7 B6 B5 B4 B3 B2 AZ some).bind k:=by
 simp only [Bt.K,bcond,Option.bind_some,Option.bind_none]
end
theorem OJ {w:Q} (ow:w.ok=true):(w.c0==0&&(w.c1==0&&(w.c2==0&&w.c3==0))&&w.d==1)=w.nul:=by
 cases hn:w.nul with
 |true=>rw [R6 ow hn]; rfl
 | false=>
  have:(w.c0==0&&(w.c1==0&&(w.c2==0&&w.c3==0)))=w.nul:=by unfold Q.nul; simp only [Bool.and_assoc]
  rw [this,hn]; rfl
theorem Bt.os {x y z:Q} (ox:x.ok=true) (oy:y.ok=true) (oz:z.ok=true):Bt.o (dI x.c0).1 (dI x.c0).2 (dI x.c1).1 (dI x.c1).2 (dI x.c2).1 (dI x.c2).2 (dI x.c3).1 (dI x.c3).2 (dI x.d).1 (dI x.d).2 (dI y.c0).1 (dI y.c0).2 (dI y.c1).1 (dI y.c1).2 (dI y.c2).1 (dI y.c2).2 (dI y.c3).1 (dI y.c3).2 (dI y.d).1 (dI y.d).2 (dI z.c0).1 (dI z.c0).2 (dI z.c1).1 (dI z.c1).2 (dI z.c2).1 (dI z.c2).2 (dI z.c3).1 (dI z.c3).2 (dI z.d).1 (dI z.d).2=some (x.nul&&(y.nul&&z.nul)):=by
 have z0:(qof 0).c0=0∧(qof 0).c1=0∧(qof 0).c2=0∧(qof 0).c3=0∧(qof 0).d=1:=⟨rfl,rfl,rfl,rfl,rfl⟩
 simp only [Bt.o,Bt.K,Cf.ps,Cf.es,cond_true,LA,z0.1,z0.2.1,z0.2.2.1,z0.2.2.2.1,z0.2.2.2.2]
 rw [←OJ ox,←OJ oy,←OJ oz]
theorem Bt.ps {x y z:Q} (ox:x.ok=true) (oy:y.ok=true) (oz:z.ok=true):Bt.pre (dI x.c0).1 (dI x.c0).2 (dI x.c1).1 (dI x.c1).2 (dI x.c2).1 (dI x.c2).2 (dI x.c3).1 (dI x.c3).2 (dI x.d).1 (dI x.d).2 (dI y.c0).1 (dI y.c0).2 (dI y.c1).1 (dI y.c1).2 (dI y.c2).1 (dI y.c2).2 (dI y.c3).1 (dI y.c3).2 (dI y.d).1 (dI y.d).2 (dI z.c0).1 (dI z.c0).2 (dI z.c1).1 (dI z.c1).2 (dI z.c2).1 (dI z.c2).2 (dI z.c3).1 (dI z.c3).2 (dI z.d).1 (dI z.d).2=true:=Fk (Bt.os ox oy oz)
theorem Bt.es {x y z:Q} (ox:x.ok=true) (oy:y.ok=true) (oz:z.ok=true):Bt (dI x.c0).1 (dI x.c0).2 (dI x.c1).1 (dI x.c1).2 (dI x.c2).1 (dI x.c2).2 (dI x.c3).1 (dI x.c3).2 (dI x.d).1 (dI x.d).2 (dI y.c0).1 (dI y.c0).2 (dI y.c1).1 (dI y.c1).2 (dI y.c2).1 (dI y.c2).2 (dI y.c3).1 (dI y.c3).2 (dI y.d).1 (dI y.d).2 (dI z.c0).1 (dI z.c0).2 (dI z.c1).1 (dI z.c1).2 (dI z.c2).1 (dI z.c2).2 (dI z.c3).1 (dI z.c3).2 (dI z.d).1 (dI z.d).2=(x.nul&&(y.nul&&z.nul)):=GT (Bt.os ox oy oz)
theorem Bt.ok:SOK Tryz.prog 60 (Bt.sp Bt Bt.pre):=by
 refine Cu (E:=⟨[(93,Cf.sp Cf Cf.pre)],[],[]⟩) (L:=[]) ⟨(Aa Cf.ok Ac),Ai,Ad,Ah⟩ 60 Tryz.func60 (by decide) rfl Bv fun vs bl v bl' h=> ?_
 unfold Bt.sp at h
 split at h
 ·rename_i A2 A3 A8 A7 A6 A9 AB AA AD AC BK BJ BI BH BG BF BE BD BC BB BA B9 B8 B7 B6 B5 B4 B3 B2 AZ
  simp only [zS,zP] at h
  obtain ⟨hp,rfl,rfl⟩:=h
  have hr:=Bt.run Cf Cf.pre A2 A3 A8 A7 A6 A9 AB AA AD AC BK BJ BI BH BG BF BE BD BC BB BA B9 B8 B7 B6 B5 B4 B3 B2 AZ
  rw [Bt.nat] at hr
  obtain ⟨r,h2⟩:=Option.isSome_iff_exists.1 (hp:(Bt.o A2 A3 A8 A7 A6 A9 AB AA AD AC BK BJ BI BH BG BF BE BD BC BB BA B9 B8 B7 B6 B5 B4 B3 B2 AZ).isSome=true)
  have h3:Bt A2 A3 A8 A7 A6 A9 AB AA AD AC BK BJ BI BH BG BF BE BD BC BB BA B9 B8 B7 B6 B5 B4 B3 B2 AZ=r:=by unfold Bt; rw [h2]; rfl
  have h4:Bt.K Cf Cf.pre A2 A3 A8 A7 A6 A9 AB AA AD AC BK BJ BI BH BG BF BE BD BC BB BA B9 B8 B7 B6 B5 B4 B3 B2 AZ some=some r:=h2
  rw [h4,Option.bind_some] at hr
  rw [h3]
  exact ⟨hr,by simp [okV,Nat.blt],clo_spec 8 _ (by kernel_rfl),Ay (by kernel_rfl)⟩
 ·cases h
section
variable {R:Type} (CN:TF5 (Bool)) (CM:TF5 Bool) (F8:TF15 (Bool)) (F4:TF15 Bool) (FI:TF15 (Bool)) (FF:TF15 Bool) (A2:Bool) (A3:ByteArray) (A8:Bool) (A7:ByteArray) (A6:Bool) (A9:ByteArray) (AB:Bool) (AA:ByteArray) (AD:Bool) (AC:ByteArray) (BK:Bool) (BJ:ByteArray) (BI:Bool) (BH:ByteArray) (BG:Bool) (BF:ByteArray) (BE:Bool) (BD:ByteArray) (BC:Bool) (BB:ByteArray) (BA:Bool) (B9:ByteArray) (B8:Bool) (B7:ByteArray) (B6:Bool) (B5:ByteArray) (B4:Bool) (B3:ByteArray) (B2:Bool) (AZ:ByteArray) (CJ:Bool) (CI:ByteArray) (CH:Bool) (CG:ByteArray) (CF:Bool) (CE:ByteArray) (CD:Bool) (CC:ByteArray) (CB:Bool) (CA:ByteArray)
noncomputable def Bn.K (k:(Bool)→Option R):Option R:=
 let t0:=F4 A2 A3 A8 A7 A6 A9 AB AA AD AC BK BJ BI BH BG BF BE BD BC BB BA B9 B8 B7 B6 B5 B4 B3 B2 AZ
 bif t0 then
 let t1:=F8 A2 A3 A8 A7 A6 A9 AB AA AD AC BK BJ BI BH BG BF BE BD BC BB BA B9 B8 B7 B6 B5 B4 B3 B2 AZ
 bif t1 then
 let t2:=FF A2 A3 A8 A7 A6 A9 AB AA AD AC BK BJ BI BH BG BF BE BD BC BB BA B9 B8 B7 B6 B5 B4 B3 B2 AZ
 bif t2 then
 let t3:=FI A2 A3 A8 A7 A6 A9 AB AA AD AC BK BJ BI BH BG BF BE BD BC BB BA B9 B8 B7 B6 B5 B4 B3 B2 AZ
 bif !t3 then
 let t4:=CM CJ CI CH CG CF CE CD CC CB CA
 bif t4 then
 let t5:=CN CJ CI CH CG CF CE CD CC CB CA
 k (t5) else none else k (false) else none else k (false) else none
theorem Bn.run:xfn Tryz.prog ⟨[(58,Af.sp CN CM),(59,Bo.sp F8 F4),(60,Bt.sp FI FF)],[],[]⟩ [] 60 Tryz.f20 [.agg ⟨.bool A2:: .string A3:: .bool A8:: .string A7:: .bool A6:: .string A9:: .bool AB:: .string AA:: .bool AD:: .string AC:: .bool BK:: .string BJ:: .bool BI:: .string BH:: .bool BG:: .string BF:: .bool BE:: .string BD:: .bool BC:: .string BB:: .bool BA:: .string B9:: .bool B8:: .string B7:: .bool B6:: .string B5:: .bool B4:: .string B3:: .bool B2:: .string AZ:: .bool CJ:: .string CI:: .bool CH:: .string CG:: .bool CF:: .string CE:: .bool CD:: .string CC:: .bool CB:: .string CA::[]⟩] []=Bn.K CN CM F8 F4 FI FF A2 A3 A8 A7 A6 A9 AB AA AD AC BK BJ BI BH BG BF BE BD BC BB BA B9 B8 B7 B6 B5 B4 B3 B2 AZ CJ CI CH CG CF CE CD CC CB CA (fun r=>some (.bool r,[])):=by kernel_rfl
noncomputable def Bn.o:Option (Bool):=Bn.K Af Af.pre Bo Bo.pre Bt Bt.pre A2 A3 A8 A7 A6 A9 AB AA AD AC BK BJ BI BH BG BF BE BD BC BB BA B9 B8 B7 B6 B5 B4 B3 B2 AZ CJ CI CH CG CF CE CD CC CB CA some
noncomputable def Bn.pre:Bool:=(Bn.o A2 A3 A8 A7 A6 A9 AB AA AD AC BK BJ BI BH BG BF BE BD BC BB BA B9 B8 B7 B6 B5 B4 B3 B2 AZ CJ CI CH CG CF CE CD CC CB CA).isSome
noncomputable def Bn:Bool:=(Bn.o A2 A3 A8 A7 A6 A9 AB AA AD AC BK BJ BI BH BG BF BE BD BC BB BA B9 B8 B7 B6 B5 B4 B3 B2 AZ CJ CI CH CG CF CE CD CC CB CA).getD default
theorem Bn.nat (k:(Bool)→Option R):Bn.K CN CM F8 F4 FI FF A2 A3 A8 A7 A6 A9 AB AA AD AC BK BJ BI BH BG BF BE BD BC BB BA B9 B8 B7 B6 B5 B4 B3 B2 AZ CJ CI CH CG CF CE CD CC CB CA k=(Bn.K CN CM F8 F4 FI FF A2 A3 A8 A7 A6 A9 AB AA AD AC BK BJ BI BH BG BF BE BD BC BB BA B9 B8 B7 B6 B5 B4 B3 B2 AZ CJ CI CH CG CF CE CD CC CB CA some).bind k:=by
 simp only [Bn.K,bcond,Option.bind_some,Option.bind_none]
theorem Bn.os {x y z q:Q} (hx:x.Le 16777215) (hy:y.Le 16777215) (hz:z.Le 16777215) (hq:q.Le 16777215) (ox:x.ok=true) (oy:y.ok=true) (oz:z.ok=true) (oq:q.ok=true):Bn.o (dI x.c0).1 (dI x.c0).2 (dI x.c1).1 (dI x.c1).2 (dI x.c2).1 (dI x.c2).2 (dI x.c3).1 (dI x.c3).2 (dI x.d).1 (dI x.d).2 (dI y.c0).1 (dI y.c0).2 (dI y.c1).1 (dI y.c1).2 (dI y.c2).1 (dI y.c2).2 (dI y.c3).1 (dI y.c3).2 (dI y.d).1 (dI y.d).2 (dI z.c0).1 (dI z.c0).2 (dI z.c1).1 (dI z.c1).2 (dI z.c2).1 (dI z.c2).2 (dI z.c3).1 (dI z.c3).2 (dI z.d).1 (dI z.d).2 (dI q.c0).1 (dI q.c0).2 (dI q.c1).1 (dI q.c1).2 (dI q.c2).1 (dI q.c2).2 (dI q.c3).1 (dI q.c3).2 (dI q.d).1 (dI q.d).2=some (!(x.nul&&(y.nul&&z.nul))):=by
 simp only [Bn.o,Bn.K,Bo.ps hx hy hz,Bo.es hx hy hz,Bt.ps ox oy oz,Bt.es ox oy oz,Af.ps hq,Af.es hq,ox,oy,oz,oq,Bool.and_self,cond_true]
 cases (x.nul&&(y.nul&&z.nul))<;>rfl
theorem Bn.ps {x y z q:Q} (hx:x.Le 16777215) (hy:y.Le 16777215) (hz:z.Le 16777215) (hq:q.Le 16777215) (ox:x.ok=true) (oy:y.ok=true) (oz:z.ok=true) (oq:q.ok=true):Bn.pre (dI x.c0).1 (dI x.c0).2 (dI x.c1).1 (dI x.c1).2 (dI x.c2).1 (dI x.c2).2 (dI x.c3).1 (dI x.c3).2 (dI x.d).1 (dI x.d).2 (dI y.c0).1 (dI y.c0).2 (dI y.c1).1 (dI y.c1).2 (dI y.c2).1 (dI y.c2).2 (dI y.c3).1 (dI y.c3).2 (dI y.d).1 (dI y.d).2 (dI z.c0).1 (dI z.c0).2 (dI z.c1).1 (dI z.c1).2 (dI z.c2).1 (dI z.c2).2 (dI z.c3).1 (dI z.c3).2 (dI z.d).1 (dI z.d).2 (dI q.c0).1 (dI q.c0).2 (dI q.c1).1 (dI q.c1).2 (dI q.c2).1 (dI q.c2).2 (dI q.c3).1 (dI q.c3).2 (dI q.d).1 (dI q.d).2=true:=Fk (Bn.os hx hy hz hq ox oy oz oq)
theorem Bn.es {x y z q:Q} (hx:x.Le 16777215) (hy:y.Le 16777215) (hz:z.Le 16777215) (hq:q.Le 16777215) (ox:x.ok=true) (oy:y.ok=true) (oz:z.ok=true) (oq:q.ok=true):Bn (dI x.c0).1 (dI x.c0).2 (dI x.c1).1 (dI x.c1).2 (dI x.c2).1 (dI x.c2).2 (dI x.c3).1 (dI x.c3).2 (dI x.d).1 (dI x.d).2 (dI y.c0).1 (dI y.c0).2 (dI y.c1).1 (dI y.c1).2 (dI y.c2).1 (dI y.c2).2 (dI y.c3).1 (dI y.c3).2 (dI y.d).1 (dI y.d).2 (dI z.c0).1 (dI z.c0).2 (dI z.c1).1 (dI z.c1).2 (dI z.c2).1 (dI z.c2).2 (dI z.c3).1 (dI z.c3).2 (dI z.d).1 (dI z.d).2 (dI q.c0).1 (dI q.c0).2 (dI q.c1).1 (dI q.c1).2 (dI q.c2).1 (dI q.c2).2 (dI q.c3).1 (dI q.c3).2 (dI q.d).1 (dI q.d).2=(!(x.nul&&(y.nul&&z.nul))):=GT (Bn.os hx hy hz hq ox oy oz oq)
end
theorem Bn.ok:SOK Tryz.prog 20 (Bn.sp Bn Bn.pre):=by
 refine Cu (E:=⟨[(58,Af.sp Af Af.pre),(59,Bo.sp Bo Bo.pre),(60,Bt.sp Bt Bt.pre)],[],[]⟩) (L:=[]) ⟨(Aa Af.ok (Aa Bo.ok (Aa Bt.ok Ac))),Ai,Ad,Ah⟩ 60 Tryz.func20 (by decide) rfl Bv fun vs bl v bl' h=> ?_
 unfold Bn.sp at h
 split at h
 ·rename_i A2 A3 A8 A7 A6 A9 AB AA AD AC BK BJ BI BH BG BF BE BD BC BB BA B9 B8 B7 B6 B5 B4 B3 B2 AZ CJ CI CH CG CF CE CD CC CB CA
  simp only [zS,zP] at h
  obtain ⟨hp,rfl,rfl⟩:=h
  have hr:=Bn.run Af Af.pre Bo Bo.pre Bt Bt.pre A2 A3 A8 A7 A6 A9 AB AA AD AC BK BJ BI BH BG BF BE BD BC BB BA B9 B8 B7 B6 B5 B4 B3 B2 AZ CJ CI CH CG CF CE CD CC CB CA
  rw [Bn.nat] at hr
  obtain ⟨r,h2⟩:=Option.isSome_iff_exists.1 (hp:(Bn.o A2 A3 A8 A7 A6 A9 AB AA AD AC BK BJ BI BH BG BF BE BD BC BB BA B9 B8 B7 B6 B5 B4 B3 B2 AZ CJ CI CH CG CF CE CD CC CB CA).isSome=true)
  have h3:Bn A2 A3 A8 A7 A6 A9 AB AA AD AC BK BJ BI BH BG BF BE BD BC BB BA B9 B8 B7 B6 B5 B4 B3 B2 AZ CJ CI CH CG CF CE CD CC CB CA=r:=by unfold Bn; rw [h2]; rfl
  have h4:Bn.K Af Af.pre Bo Bo.pre Bt Bt.pre A2 A3 A8 A7 A6 A9 AB AA AD AC BK BJ BI BH BG BF BE BD BC BB BA B9 B8 B7 B6 B5 B4 B3 B2 AZ CJ CI CH CG CF CE CD CC CB CA some=some r:=h2
  rw [h4,Option.bind_some] at hr
  rw [h3]
  exact ⟨hr,by simp [okV,Nat.blt],clo_spec 8 _ (by kernel_rfl),Ay (by kernel_rfl)⟩
 ·cases h
end Go.Proofs.YtphlckkbihmlnaaGreatDoor.G
end
section
namespace Go.Proofs.YtphlckkbihmlnaaGreatDoor.G
open Go
structure Pq (x:Rat) (X:I2):Prop where
 lo:(X.1:Rat)≤x*16777216
 hi:x*16777216≤(X.2:Rat)
theorem Ks {a b q:Rat} (hq:0≤q) (h:a≤b):a*q≤b*q:=Rat.mul_le_mul_of_nonneg_right h hq
theorem KQ {a b q:Rat} (hq:0<q) (h:a*q≤b*q):a≤b:=by
 rcases Rat.le_total (a:=a) (b:=b) with h1|h1
 ·exact h1
 ·have h2:=Ks (q:=q⁻¹) (by have:=Rat.inv_pos.2 hq; grind) h
  have e1:a*q*q⁻¹=a:=by grind
  have e2:b*q*q⁻¹=b:=by grind
  rw [e1,e2] at h2
  exact h2
theorem H5 {a b:Int} (h:a≤b):(a:Rat)≤(b:Rat):=Rat.intCast_le_intCast.2 h
theorem J5 {a b:Int} (h:a<b):(a:Rat)<(b:Rat):=Rat.intCast_lt_intCast.2 h
theorem Ht {p q:Int} {X:I2} (hq:0<q) (h:Pt p q X):Pq ((p:Rat)/((q:Rat)*16777216)) X:=by
 have hq':(0:Rat)<(q:Rat):=by have:=J5 hq; simpa using this
 have h1:=H5 h.lo
 have h2:=H5 h.hi
 rw [Rat.intCast_mul] at h1 h2
 have e:(p:Rat)/((q:Rat)*16777216)*16777216*q=p:=by grind
 exact ⟨KQ hq' (by rw [e]; exact h1),KQ hq' (by rw [e]; exact h2)⟩
theorem HW (x:Rat):(0:Int)<(x.den:Int):=by have:=x.den_pos; omega
theorem TT (x:Rat):(0:Rat)<((x.den:Int):Rat):=by have:=J5 (HW x); exact this
theorem Lt (x:Rat):((x.den:Int):Rat)≠0:=fun h=>by
 have h1:=TT x
 rw [h] at h1
 exact absurd h1 (by simp)
theorem Lf (x:Rat):(x.num:Rat)=x*((x.den:Int):Rat):=by
 have h:=Rat.num_divInt_den x
 rw [Rat.divInt_eq_div] at h
 have h2:=Rat.div_mul_cancel (a:=(x.num:Rat)) (Lt x)
 rw [h] at h2
 exact h2.symm
theorem Ji {x:Rat} {X:I2} (h:Pq x X):Pt (x.num*16777216) (x.den:Int) X:=by
 have hd:(0:Rat)≤((x.den:Int):Rat):=by have:=TT x; grind
 have e:=Lf x
 have h1:=Ks hd h.lo
 have h2:=Ks hd h.hi
 have e2:x*16777216*((x.den:Int):Rat)=(x.num:Rat)*16777216:=by rw [e]; grind
 rw [e2] at h1 h2
 have c:((x.num*16777216:Int):Rat)=(x.num:Rat)*16777216:=by rw [Rat.intCast_mul]; rfl
 have d:∀z:Int,((z*(x.den:Int):Int):Rat)=(z:Rat)*((x.den:Int):Rat):=fun z=>by rw [Rat.intCast_mul]
 exact ⟨Rat.intCast_le_intCast.1 (by rw [c,d]; exact h1),Rat.intCast_le_intCast.1 (by rw [c,d]; exact h2)⟩
theorem Pq.cast {x y:Rat} {X:I2} (h:Pq x X) (e:x=y):Pq y X:=by rw [←e]; exact h
theorem addQ {x y:Rat} {X Y Z:I2} (h:Pq x X) (h':Pq y Y) (e:addR X Y= .ok Z):Pq (x+y) Z:=by
 obtain ⟨e,_⟩:=RQ e
 subst e
 have h1:=h.lo; have h2:=h.hi; have h3:=h'.lo; have h4:=h'.hi
 constructor
 ·show ((X.1+Y.1:Int):Rat)≤_
  rw [Rat.intCast_add]; grind
 ·show _≤((X.2+Y.2:Int):Rat)
  rw [Rat.intCast_add]; grind
theorem subQ {x y:Rat} {X Y Z:I2} (h:Pq x X) (h':Pq y Y) (e:subR X Y= .ok Z):Pq (x-y) Z:=by
 obtain ⟨e,_⟩:=O3 e
 subst e
 have h1:=h.lo; have h2:=h.hi; have h3:=h'.lo; have h4:=h'.hi
 constructor
 ·show ((X.1-Y.2:Int):Rat)≤_
  rw [Rat.intCast_sub]; grind
 ·show _≤((X.2-Y.1:Int):Rat)
  rw [Rat.intCast_sub]; grind
theorem ngQ {x:Rat} {X Z:I2} (h:Pq x X) (e:ngR X= .ok Z):Pq (-x) Z:=by
 have e:=ng_inv e
 subst e
 have h1:=h.lo; have h2:=h.hi
 constructor
 ·show ((-X.2:Int):Rat)≤_
  rw [Rat.intCast_neg]; grind
 ·show _≤((-X.1:Int):Rat)
  rw [Rat.intCast_neg]; grind
theorem mulQ {x y:Rat} {X Y Z:I2} (h:Pq x X) (h':Pq y Y) (e:mulR X Y= .ok Z):Pq (x*y) Z:=by
 have k:=Ht (by have:=Int.mul_pos (HW x) (HW y); omega) (mulR_pt (HW x) (HW y) (Ji h) (Ji h') e)
 refine k.cast ?_
 have a:=Lf x; have b:=Lf y; have c:=Lt x; have d:=Lt y
 simp only [Rat.intCast_mul]
 rw [a,b]
 have e1:((16777216:Int):Rat)=16777216:=rfl
 rw [e1]
 grind
theorem sqQ {x:Rat} {X Z:I2} (h:Pq x X) (e:sqR X= .ok Z):Pq (x*x) Z:=by
 have k:=Ht (by have:=Int.mul_pos (HW x) (HW x); omega) (sqR_pt (HW x) (Ji h) e)
 refine k.cast ?_
 have a:=Lf x; have c:=Lt x
 simp only [Rat.intCast_mul]
 rw [a]
 have e1:((16777216:Int):Rat)=16777216:=rfl
 rw [e1]
 grind
theorem divQ {x y:Rat} {X Y Z:I2} (hy:0<y) (h:Pq x X) (h':Pq y Y) (e:divR X Y= .ok Z):Pq (x/y) Z:=by
 have hn0:y.num≠0:=fun h=>by rw [Rat.num_eq_zero.1 h] at hy; exact absurd hy (by simp)
 have hn1:0≤y.num:=Rat.num_nonneg.2 (by grind)
 have hn:0<y.num:=by omega
 have k:=Ht (by have:=Int.mul_pos (HW x) (show 0<y.num*16777216 by omega); omega) (divR_pt (HW x) (HW y) (by omega) (Ji h) (Ji h') e)
 refine k.cast ?_
 have a:=Lf x; have b:=Lf y; have c:=Lt x; have d:=Lt y
 simp only [Rat.intCast_mul]
 rw [a,b]
 have e1:((16777216:Int):Rat)=16777216:=rfl
 rw [e1]
 have hy0:y≠0:=by intro h; rw [h] at hy; exact absurd hy (by simp)
 grind
theorem Nv {T:Int→Bool} :∀(d:Nat) (a:Int),T a=true→∃N,a≤N∧N≤a+(d:Int)∧T N=true∧(N=a+(d:Int)∨T (N+1)=false)
 |0,a,h=>⟨a,Int.le_refl _,by omega,h,.inl (by omega)⟩
 | d +1,a,h=>by
  cases h1:T (a+1) with
  | true=>
   obtain ⟨N,h2,h3,h4,h5⟩:=Nv d (a+1) h1
   exact ⟨N,by omega,by omega,h4,h5.imp (fun h=>by omega) id⟩
  |false=>exact ⟨a,Int.le_refl _,by omega,h,.inr h1⟩
theorem qbnd {x y A B:Rat} (h1: -A≤x) (h2:x≤A) (h3: -B≤y) (h4:y≤B): -(A*B)≤x*y∧x*y≤A*B:=by
 have p1:=Rat.mul_nonneg (a:=A-x) (b:=B+y) (by grind) (by grind)
 have p2:=Rat.mul_nonneg (a:=A+x) (b:=B-y) (by grind) (by grind)
 have p3:=Rat.mul_nonneg (a:=A-x) (b:=B-y) (by grind) (by grind)
 have p4:=Rat.mul_nonneg (a:=A+x) (b:=B+y) (by grind) (by grind)
 constructor<;>grind
theorem HR (x:Rat):0≤x*x:=by
 rcases Rat.le_total (a:=0) (b:=x) with h|h
 ·exact Rat.mul_nonneg h h
 ·have:=Rat.mul_nonneg (a:= -x) (b:= -x) (by grind) (by grind); grind
theorem Pq.bd {x:Rat} {X:I2} (h:Pq x X) (hv:V2 X=true): -64≤x∧x≤64:=by
 have v:=Hf.1 (show V X.1 X.2=true from hv)
 have h1:=H5 (show (-1073741824:Int)≤X.1 by omega)
 have h2:=H5 (show X.2≤(1073741824:Int) by omega)
 have e1:((-1073741824:Int):Rat)= -1073741824:=rfl
 have e2:((1073741824:Int):Rat)=1073741824:=rfl
 rw [e1] at h1
 rw [e2] at h2
 have h3:=h.lo; have h4:=h.hi
 constructor<;>grind
theorem rt_ex {x:Rat} {X Z:I2} {j:Int} (hj:0<j) (hx:0≤x) (h:Pq x X) (e:rtR X= .ok Z):
  ∃y:Rat,0≤y∧Pq y Z∧y*y≤x∧x≤(y+1/(16777216*(j:Rat)))*(y+1/(16777216*(j:Rat))):=by
 obtain ⟨hv,h0,eZ⟩:=rt_inv e
 have v:=Hf.1 (show V X.1 X.2=true from hv)
 obtain ⟨s1,s2,_⟩:=J0 (n:=X.1*16777216) (by omega) (by omega)
 obtain ⟨_,t2,_,t4,_⟩:=Kj (n:=X.2*16777216) (by omega) (by omega)
 have s4:=Oq (m:=X.1*16777216) (n:=X.2*16777216) (by omega) (by omega) (by omega)
 subst eZ
 generalize hn:sqt (X.1*16777216)=n at*
 generalize hh:sqc (X.2*16777216)=k at*
 have hnk:n≤k:=by omega
 have hj':(0:Rat)<(j:Rat):=J5 hj
 obtain ⟨c,hc⟩:∃c:Rat,c=16777216*(j:Rat):=⟨_,rfl⟩
 have hc0:0<c:=by grind
 have eU:((16777216:Int):Rat)=16777216:=rfl
 have n2:=H5 s2
 have k2:=H5 t2
 rw [Rat.intCast_mul,Rat.intCast_mul,eU] at n2 k2
 have hjj:=HR (j:Rat)
 have hcc:0<c*c:=Rat.mul_pos hc0 hc0
 have low:((n*j:Int):Rat)*((n*j:Int):Rat)≤x*(c*c):=by
  have q1:=Ks (q:=(j:Rat)*j) hjj (show (n:Rat)*n≤x*16777216*16777216 by have:=h.lo; grind)
  rw [Rat.intCast_mul,hc]; grind
 have top:x*(c*c)≤((k*j:Int):Rat)*((k*j:Int):Rat):=by
  have q1:=Ks (q:=(j:Rat)*j) hjj (show x*16777216*16777216≤(k:Rat)*k by have:=h.hi; grind)
  rw [Rat.intCast_mul,hc]; grind
 have hle:n*j≤k*j:=Int.mul_le_mul_of_nonneg_right hnk (by omega)
 have h00:0≤n*j:=Int.mul_nonneg s1 (by omega)
 obtain ⟨N,g1,g2,g3,g4⟩:=Nv (T:=fun m=>decide (((m:Int):Rat)*(m:Rat)≤x*(c*c))) (k*j-n*j).toNat (n*j) (decide_eq_true low)
 have g3:=of_decide_eq_true g3
 have N0:=H5 (show 0≤N by omega)
 have N1:=H5 g1
 have N2:=H5 (show N≤k*j by omega)
 rw [Rat.intCast_mul] at N1 N2
 have e0:((0:Int):Rat)=0:=rfl
 rw [e0] at N0
 obtain ⟨y,hy⟩:∃y:Rat,y=(N:Rat)/c:=⟨_,rfl⟩
 have eN:(N:Rat)=y*c:=by rw [hy]; grind
 have ei:(1/(16777216*(j:Rat)))*c=1:=by rw [hc]; grind
 generalize 1/(16777216*(j:Rat))=i at*
 rw [eN] at N0 N1 N2 g3
 refine ⟨y,KQ hc0 (by grind),⟨KQ hj' (by rw [hc] at N1; grind),KQ hj' (by rw [hc] at N2; grind)⟩,KQ hcc (by grind),?_⟩
 refine KQ hcc ?_
 have e4:(y+i)*(y+i)*(c*c)=(y*c+1)*(y*c+1):=by grind
 rw [e4]
 rcases g4 with g4|g4
 ·have e5:N=k*j:=by omega
  rw [←e5,eN] at top
  grind
 ·have g5:=of_decide_eq_false g4
  rw [Rat.intCast_add,eN] at g5
  have e6:((1:Int):Rat)=1:=rfl
  rw [e6] at g5
  grind
theorem ddot_q {d m:Bx} {x:I2} {w0 w1 w2 n0 n1 n2:Rat} (h0:Pq w0 d.1) (h1:Pq w1 d.2.1) (h2:Pq w2 d.2.2) (k0:Pq n0 m.1) (k1:Pq n1 m.2.1) (k2:Pq n2 m.2.2) (e:ddot d m= .ok x):Pq (w0*n0+w1*n1+w2*n2) x∧V2 x=true:=by
 unfold ddot at e
 obtain ⟨_,e⟩:=He rfl e
 obtain ⟨x0,e0,e⟩:=Ez e
 obtain ⟨x1,e1,e⟩:=Ez e
 obtain ⟨x2,e2,e⟩:=Ez e
 obtain ⟨s,e3,e⟩:=Ez e
 exact ⟨addQ (addQ (mulQ h0 k0 e0) (mulQ h1 k1 e1) e3) (mulQ h2 k2 e2) e,(RQ e).2⟩
theorem oneQ:Pq 1 one2:=⟨by show ((16777216:Int):Rat)≤_; have:((16777216:Int):Rat)=16777216:=rfl; rw [this]; grind,by show _≤((16777216:Int):Rat); have:((16777216:Int):Rat)=16777216:=rfl; rw [this]; grind⟩
theorem rdc_q {c r q:I2} {β ρ:Rat} (h:Pq β c) (h':Pq ρ r) (e:rdc c r= .ok q):Pq (1-ρ*ρ*(1-β*β)) q:=by
 unfold rdc at e
 obtain ⟨_,e⟩:=He rfl e
 obtain ⟨a,e0,e⟩:=Ez e
 obtain ⟨b,e1,e⟩:=Ez e
 obtain ⟨t,e2,e⟩:=Ez e
 obtain ⟨p,e3,e⟩:=Ez e
 exact subQ oneQ (mulQ (sqQ h' e0) (subQ oneQ (sqQ h e1) e2) e3) e
theorem rfc_q {d m o:Bx} {r x t:I2} {w0 w1 w2 n0 n1 n2 ρ:Rat} {j:Int} (hj:0<j) (h0:Pq w0 d.1) (h1:Pq w1 d.2.1) (h2:Pq w2 d.2.2) (k0:Pq n0 m.1) (k1:Pq n1 m.2.1) (k2:Pq n2 m.2.2) (hr:Pq ρ r) (e:rfc d m r= .ok (o,x,t)):
  ∃ β α0 s:Rat,β=w0*n0+w1*n1+w2*n2∧(s=1∧0<β∨s= -1∧β<0)∧0≤α0∧α0*α0≤1-ρ*ρ*(1-β*β)∧1-ρ*ρ*(1-β*β)≤(α0+1/(16777216*(j:Rat)))*(α0+1/(16777216*(j:Rat)))∧α0≤64∧(-64≤s*α0-ρ*β∧s*α0-ρ*β≤64)∧(-64≤ρ∧ρ≤64)∧(-64≤β∧β≤64)∧
   Pq (w0*ρ+n0*(s*α0-ρ*β)) o.1∧Pq (w1*ρ+n1*(s*α0-ρ*β)) o.2.1∧Pq (w2*ρ+n2*(s*α0-ρ*β)) o.2.2:=by
 unfold rfc at e
 obtain ⟨hv,e⟩:=He rfl e
 simp only [zB] at hv
 obtain ⟨_,_,hvr⟩:=hv
 obtain ⟨x',e0,e⟩:=Ez e
 obtain ⟨hβ,hvx⟩:=ddot_q h0 h1 h2 k0 k1 k2 e0
 split at e
 ·cases e
 rename_i hs0
 obtain ⟨q,e1,e⟩:=Ez e
 have hR:=rdc_q hβ hr e1
 split at e
 ·cases e
 rename_i hq0
 obtain ⟨s',e2,e⟩:=Ez e
 obtain ⟨t',e3,e⟩:=Ez e
 obtain ⟨a,e4,e⟩:=Ez e
 obtain ⟨p,e5,e⟩:=Ez e
 obtain ⟨k,e6,e⟩:=Ez e
 obtain ⟨b,e7,e⟩:=Ez e
 obtain ⟨o',e8,e⟩:=Ez e
 injection e with e
 injection e with ea e
 injection e with eb ec
 subst ea eb ec
 have bβ:=hβ.bd hvx
 generalize w0*n0+w1*n1+w2*n2=β at*
 have hRn:0≤1-ρ*ρ*(1-β*β):=by
  have:=H5 (show 0≤q.1 by omega)
  have e0:((0:Int):Rat)=0:=rfl
  rw [e0] at this
  have:=hR.lo
  grind
 obtain ⟨α0,y0,y1,y2,y3⟩:=rt_ex hj hRn hR e2
 have hvs:V2 s'=true:=by
  have:=rt_lim (x:=q) (by
   unfold rdc at e1
   obtain ⟨_,e1⟩:=He rfl e1
   obtain ⟨_,_,e1⟩:=Ez e1
   obtain ⟨_,_,e1⟩:=Ez e1
   obtain ⟨_,_,e1⟩:=Ez e1
   obtain ⟨_,_,e1⟩:=Ez e1
   exact (O3 e1).2) (by omega)
  rcases this with ⟨a,h,h'⟩|h
  ·rw [e2] at h; injection h with h; rw [h]; exact h'
  ·rw [e2] at h; cases h
 have bα:=y1.bd hvs
 have fin:∀s:Rat,(s=1∧0<β∨s= -1∧β<0)→Pq (s*α0) t'→∃β' α0 s:Rat,β'=β∧(s=1∧0<β'∨s= -1∧β'<0)∧0≤α0∧α0*α0≤1-ρ*ρ*(1-β'*β')∧1-ρ*ρ*(1-β'*β')≤(α0+1/(16777216*(j:Rat)))*(α0+1/(16777216*(j:Rat)))∧α0≤64∧(-64≤s*α0-ρ*β'∧s*α0-ρ*β'≤64)∧(-64≤ρ∧ρ≤64)∧(-64≤β'∧β'≤64)∧
   Pq (w0*ρ+n0*(s*α0-ρ*β')) o'.1∧Pq (w1*ρ+n1*(s*α0-ρ*β')) o'.2.1∧Pq (w2*ρ+n2*(s*α0-ρ*β')) o'.2.2:=by
  intro s hs ht
  have pk:=subQ ht (mulQ hr hβ e5) e6
  have bk:=pk.bd (O3 e6).2
  unfold dscale at e4 e7
  obtain ⟨_,e4⟩:=He rfl e4
  obtain ⟨_,e7⟩:=He rfl e7
  unfold dadd at e8
  obtain ⟨_,e8⟩:=He rfl e8
  unfold dzip at e4 e7 e8
  obtain ⟨a0,f0,e4⟩:=Ez e4
  obtain ⟨a1,f1,e4⟩:=Ez e4
  obtain ⟨a2,f2,e4⟩:=Ez e4
  injection e4 with e4
  subst e4
  obtain ⟨b0,g0,e7⟩:=Ez e7
  obtain ⟨b1,g1,e7⟩:=Ez e7
  obtain ⟨b2,g2,e7⟩:=Ez e7
  injection e7 with e7
  subst e7
  obtain ⟨c0,i0,e8⟩:=Ez e8
  obtain ⟨c1,i1,e8⟩:=Ez e8
  obtain ⟨c2,i2,e8⟩:=Ez e8
  injection e8 with e8
  subst e8
  exact ⟨β,α0,s,rfl,hs,y0,y2,y3,bα.2,bk,hr.bd hvr,bβ,addQ (mulQ h0 hr f0) (mulQ k0 pk g0) i0,addQ (mulQ h1 hr f1) (mulQ k1 pk g1) i1,addQ (mulQ h2 hr f2) (mulQ k2 pk g2) i2⟩
 rcases isg_val x'.1 x'.2 with ⟨hs,_,hp⟩|⟨hs,_,_,hp⟩|⟨hs,_⟩
 ·rw [hs,if_neg (by decide)] at e3
  injection e3 with e3
  refine fin 1 (.inl ⟨rfl,?_⟩) (by rw [←e3]; exact y1.cast (by grind))
  have:=J5 hp
  have e0:((0:Int):Rat)=0:=rfl
  rw [e0] at this
  have:=hβ.lo
  grind
 ·rw [hs,if_pos (by decide)] at e3
  refine fin (-1) (.inr ⟨rfl,?_⟩) ((ngQ y1 e3).cast (by grind))
  have:=J5 hp
  have e0:((0:Int):Rat)=0:=rfl
  rw [e0] at this
  have:=hβ.hi
  grind
 ·exact absurd hs hs0
theorem Mh {a t R η w:Rat} (ha:0≤a) (ht:0≤t) (hη:0≤η) (hw:0≤w) (h1:a*a≤R) (h2:R≤(a+η)*(a+η)) (h3:R-t*t≤w*w) (h4:t*t-R≤w*w):a-t≤η+w∧t-a≤η+w:=by
 constructor
 ·rcases Rat.le_total (a:=a) (b:=t+w) with h|h
  ·grind
  ·have p1:=Rat.mul_nonneg (a:=a-(t+w)) (b:=a+t+w) (by grind) (by grind)
   have p2:=Rat.mul_nonneg ht hw
   have e:a*a≤(t+w)*(t+w):=by grind
   rcases Rat.le_total (a:=a) (b:=t+w+η) with h5|h5
   ·grind
   ·have p3:=Rat.mul_nonneg (a:=a-(t+w)) (b:=a-(t+w)) (by grind) (by grind)
    have p4:=Rat.mul_nonneg (a:=a-(t+w)) (b:=t+w) (by grind) (by grind)
    have p5:(a-(t+w))*(a-(t+w))≤0:=by grind
    have p6:(a-(t+w))*(a-(t+w))=0:=by grind
    have p7:a-(t+w)=0:=by
     rcases Rat.mul_eq_zero.1 p6 with h|h<;>exact h
    grind
 ·rcases Rat.le_total (a:=t) (b:=a+η+w) with h|h
  ·grind
  ·have p1:=Rat.mul_nonneg (a:=t-(a+η+w)) (b:=t-(a+η+w)) (by grind) (by grind)
   have p2:=Rat.mul_nonneg (a:=t-(a+η+w)) (b:=a+η+w) (by grind) (by grind)
   have p3:=Rat.mul_nonneg (a:=a+η) (b:=w) (by grind) hw
   have p6:(t-(a+η+w))*(t-(a+η+w))=0:=by grind
   have p7:t-(a+η+w)=0:=by
    rcases Rat.mul_eq_zero.1 p6 with h|h<;>exact h
   grind
theorem QQ {ρ σ β k α0 α1 s ε η:Rat} (hσ:σ*ρ=1) (bσ: -64≤σ∧σ≤64) (bk: -64≤k∧k≤64) (hs:s=1∧0<β∨s= -1∧β<0) (a0:0≤α0) (a64:α0≤64) (hk:k=s*α0-ρ*β)
  (r1:α0*α0≤1-ρ*ρ*(1-β*β)) (r2:1-ρ*ρ*(1-β*β)≤(α0+η)*(α0+η)) (b0:0≤α1)
  (q1:α1*α1≤1-σ*σ*(1-(s*α0-k*ε)*(s*α0-k*ε))) (q2:1-σ*σ*(1-(s*α0-k*ε)*(s*α0-k*ε))≤(α1+η)*(α1+η))
  (hε:0≤ε) (hε':ε≤1/1208925819614629174706176) (hη:0≤η) (hη':η≤1/1208925819614629174706176):
  -(1/67108864)≤s*α1-β+σ*k*ε∧s*α1-β+σ*k*ε≤1/67108864:=by
 have hss:s*s=1:=by rcases hs with ⟨h,_⟩|⟨h,_⟩<;>rw [h]<;>grind
 have e1:1-σ*σ*(1-(s*α0-k*ε)*(s*α0-k*ε))-β*β=σ*σ*((s*α0-k*ε)*(s*α0-k*ε)-(1-ρ*ρ*(1-β*β))):=by
  have:σ*σ*(ρ*ρ)=1:=by grind
  grind
 have e2:(s*α0-k*ε)*(s*α0-k*ε)=α0*α0-2*(s*α0*k)*ε+k*k*(ε*ε):=by grind
 have sα: -64≤s*α0∧s*α0≤64:=by rcases hs with ⟨h,_⟩|⟨h,_⟩<;>rw [h]<;>constructor<;>grind
 have m1:=qbnd (A:=64) (B:=64) sα.1 sα.2 bk.1 bk.2
 have m2:=qbnd (x:=s*α0*k) (y:=ε) (A:=64*64) (B:=ε) m1.1 m1.2 (by grind) (by grind)
 have m3:=qbnd (A:=64) (B:=64) bk.1 bk.2 bk.1 bk.2
 have ε2:=qbnd (x:=ε) (y:=ε) (A:=ε) (B:=1) (by grind) (by grind) (by grind) (by grind)
 have m4:=qbnd (x:=k*k) (y:=ε*ε) (A:=64*64) (B:=ε) m3.1 m3.2 (by grind) (by grind)
 have m5:=qbnd (x:=α0) (y:=η) (A:=64) (B:=η) (by grind) (by grind) (by grind) (by grind)
 have η2:=qbnd (x:=η) (y:=η) (A:=η) (B:=1) (by grind) (by grind) (by grind) (by grind)
 have m6:=qbnd (A:=64) (B:=64) bσ.1 bσ.2 bσ.1 bσ.2
 have hD: -(1/73786976294838206464)≤(s*α0-k*ε)*(s*α0-k*ε)-(1-ρ*ρ*(1-β*β))∧(s*α0-k*ε)*(s*α0-k*ε)-(1-ρ*ρ*(1-β*β))≤1/73786976294838206464:=by
  rw [e2]
  generalize 1-ρ*ρ*(1-β*β)=R at*
  constructor<;>grind
 generalize (s*α0-k*ε)*(s*α0-k*ε)-(1-ρ*ρ*(1-β*β))=D at*
 have m7:=qbnd (A:=64*64) (B:=1/73786976294838206464) m6.1 m6.2 hD.1 hD.2
 rw [←e1] at m7
 generalize 1-σ*σ*(1-(s*α0-k*ε)*(s*α0-k*ε))=R1 at*
 have m8:=qbnd (x:=σ) (y:=k) (A:=64) (B:=64) bσ.1 bσ.2 bk.1 bk.2
 have m9:=qbnd (x:=σ*k) (y:=ε) (A:=64*64) (B:=ε) m8.1 m8.2 (by grind) (by grind)
 rcases hs with ⟨h,hb⟩|⟨h,hb⟩
 ·have c:=Mh (a:=α1) (t:=β) (R:=R1) (η:=η) (w:=1/134217728) b0 (by grind) hη (by grind) q1 q2 (by grind) (by grind)
  rw [h]
  constructor<;>grind
 ·have c:=Mh (a:=α1) (t:= -β) (R:=R1) (η:=η) (w:=1/134217728) b0 (by grind) hη (by grind) q1 q2 (by grind) (by grind)
  rw [h]
  constructor<;>grind
def UQ (m:Bx):Prop:=∃n0 n1 n2 ε:Rat,Pq n0 m.1∧Pq n1 m.2.1∧Pq n2 m.2.2∧n0*n0+n1*n1+n2*n2=1-ε∧0≤ε∧ε≤1/1208925819614629174706176
theorem uq_of {P0 P1 P2:Int} {m:Bx} (k0:Pt P0 1152921504606846976 m.1) (k1:Pt P1 1152921504606846976 m.2.1) (k2:Pt P2 1152921504606846976 m.2.2) (l:P0*P0+P1*P1+P2*P2≤19342813113834066795298816*19342813113834066795298816) (u:19342813113834066795298816*19342813113834066795298816≤P0*P0+P1*P1+P2*P2+9*19342813113834066795298816):UQ m:=by
 have q0:=Ht (by decide) k0
 have q1:=Ht (by decide) k1
 have q2:=Ht (by decide) k2
 have l':=H5 l
 have u':=H5 u
 simp only [Rat.intCast_add,Rat.intCast_mul] at l' u'
 have e1:((1152921504606846976:Int):Rat)=1152921504606846976:=rfl
 have e2:((19342813113834066795298816:Int):Rat)=19342813113834066795298816:=rfl
 have e3:((9:Int):Rat)=9:=rfl
 rw [e1] at q0 q1 q2
 rw [e2] at l' u'
 rw [e3] at u'
 generalize (P0:Rat)=p0 at*
 generalize (P1:Rat)=p1 at*
 generalize (P2:Rat)=p2 at*
 exact ⟨_,_,_,1-(p0/(1152921504606846976*16777216)*(p0/(1152921504606846976*16777216))+p1/(1152921504606846976*16777216)*(p1/(1152921504606846976*16777216))+p2/(1152921504606846976*16777216)*(p2/(1152921504606846976*16777216))),q0,q1,q2,by grind,by grind,by grind⟩
theorem unit_bd {n:Rat} (h:n*n≤1): -1≤n∧n≤1:=by
 have h1:=HR (n-1)
 have h2:=HR (n+1)
 constructor<;>grind
theorem Rh {x y:Rat} {X Y:I2} (h:Pq x X) (h':Pq y Y) (l: -(1/67108864)≤x-y) (u:x-y≤1/67108864):Y.1≤X.2∧X.1≤Y.2:=by
 have k:∀ {a b:Int},(a:Rat)≤b+1/2→a≤b:=fun {a b} h=>by
  rcases Int.lt_or_le b a with h1|h1
  ·have h2:=H5 (show b+1≤a by omega)
   rw [Rat.intCast_add] at h2
   have e:((1:Int):Rat)=1:=rfl
   rw [e] at h2
   exfalso
   grind
  ·exact h1
 have h1:=h.lo; have h2:=h.hi; have h3:=h'.lo; have h4:=h'.hi
 exact ⟨k (by grind),k (by grind)⟩
theorem Tj {d m a b:Bx} {r iv x1 t1 x2 t2:I2} (hd:∃x y z:Rat,Pq x d.1∧Pq y d.2.1∧Pq z d.2.2∧x*x+y*y+z*z=1) (hm:UQ m) (hr:0<r.1) (hinv:divR one2 r= .ok iv)
  (e1:rfc d m r= .ok (a,x1,t1)) (e2:rfc a m iv= .ok (b,x2,t2)):
  (d.1.1≤b.1.2∧b.1.1≤d.1.2)∧(d.2.1.1≤b.2.1.2∧b.2.1.1≤d.2.1.2)∧(d.2.2.1≤b.2.2.2∧b.2.2.1≤d.2.2.2):=by
 obtain ⟨w0,w1,w2,h0,h1,h2,hw⟩:=hd
 obtain ⟨n0,n1,n2,ε,k0,k1,k2,hn,ε0,ε1⟩:=hm
 have hrv:V2 r=true:=by
  unfold rfc at e1
  obtain ⟨hv,_⟩:=He rfl e1
  simp only [zB] at hv
  exact hv.2.2
 have pr:=Ht (by decide) (Pt.int hrv)
 have hρ:(0:Rat)<((r.1:Int):Rat)/(((1:Int):Rat)*16777216):=by
  have:=J5 hr
  have e0:((0:Int):Rat)=0:=rfl
  have e3:((1:Int):Rat)=1:=rfl
  rw [e0] at this
  rw [e3]; grind
 generalize ((r.1:Int):Rat)/(((1:Int):Rat)*16777216)=ρ at pr hρ
 have pσ:=divQ hρ oneQ pr hinv
 have hρ0:ρ≠0:=by intro h; rw [h] at hρ; exact absurd hρ (by simp)
 have hσ:1/ρ*ρ=1:=by grind
 generalize 1/ρ=σ at pσ hσ
 obtain ⟨β,α0,s,eβ,hs,a0,r1,r2,a64,bk,bρ,bβ,g0,g1,g2⟩:=rfc_q (j:=1152921504606846976) (by decide) h0 h1 h2 k0 k1 k2 pr e1
 obtain ⟨k,ek⟩:∃k,k=s*α0-ρ*β:=⟨_,rfl⟩
 rw [←ek] at bk g0 g1 g2
 obtain ⟨β',α1,s',eβ',hs',b0,q1,q2,_,_,bσ,_,f0,f1,f2⟩:=rfc_q (j:=1152921504606846976) (by decide) g0 g1 g2 k0 k1 k2 pσ e2
 have eb:β'=s*α0-k*ε:=by
  have:β'=ρ*(w0*n0+w1*n1+w2*n2)+k*(n0*n0+n1*n1+n2*n2):=by rw [eβ']; grind
  rw [this,←eβ,hn,ek]; grind
 have es:s'=s:=by
  have p1:=Rat.mul_nonneg a0 (show 0≤1-ε by grind)
  have p2:=Rat.mul_nonneg (a:=ρ) (b:=ε) (by grind) ε0
  rcases hs with ⟨h,hb⟩|⟨h,hb⟩<;>rcases hs' with ⟨h',hb'⟩|⟨h',hb'⟩
  ·rw [h,h']
  ·have p3:=Rat.mul_nonneg p2 (show 0≤β by grind)
   rw [eb,ek,h] at hb'
   grind
  ·have p3:=Rat.mul_nonneg p2 (show 0≤ -β by grind)
   rw [eb,ek,h] at hb'
   grind
  ·rw [h,h']
 rw [es,eb] at f0 f1 f2
 rw [eb] at q1 q2
 have eη:(1:Rat)/(16777216*((1152921504606846976:Int):Rat))=1/19342813113834066795298816:=by
  have:((1152921504606846976:Int):Rat)=1152921504606846976:=rfl
  rw [this]; grind
 rw [eη] at r2 q2
 have c:=QQ hσ bσ bk hs a0 a64 ek r1 r2 b0 q1 q2 ε0 ε1 (by grind) (by grind)
 have s0:=HR n0
 have s1:=HR n1
 have s2:=HR n2
 have fin:∀ {n w:Rat} {X Y:I2},n*n≤1→Pq w Y→Pq ((w*ρ+n*k)*σ+n*(s*α1-σ*(s*α0-k*ε))) X→Y.1≤X.2∧X.1≤Y.2:=by
  intro n w X Y hn1 hy hx
  have b1:=unit_bd hn1
  have b2:=qbnd (x:=n) (y:=s*α1-β+σ*k*ε) (A:=1) (B:=1/67108864) b1.1 b1.2 c.1 c.2
  have e3:(w*ρ+n*k)*σ+n*(s*α1-σ*(s*α0-k*ε))-w=n*(s*α1-β+σ*k*ε):=by
   have:k*σ=σ*(s*α0)-β:=by rw [ek]; grind
   grind
  exact Rh hx hy (by rw [e3]; grind) (by rw [e3]; grind)
 exact ⟨fin (by grind) h0 f0,fin (by grind) h1 f1,fin (by grind) h2 f2⟩
end Go.Proofs.YtphlckkbihmlnaaGreatDoor.G
end
section
namespace Go.Proofs.YtphlckkbihmlnaaGreatDoor.G
open Go Go.Proofs RX
def mn (x y:Int):Int:=if y<x then y else x
def mx (x y:Int):Int:=if y>x then y else x
theorem Su (x y:Int):mn x y=min x y:=by unfold mn; split<;>omega
theorem Sq (x y:Int):mx x y=max x y:=by unfold mx; split<;>omega
def Fo.sp:HSpec
 |[.slice (some ⟨0,0,none⟩) 2 2],[.cs [.int .i64 a,.int .i64 b] 3]=>some (true,.tuple ⟨[.int .i64 (mn (mn a a) b),.int .i64 (mx (mx a a) b)]⟩,[.cs [.int .i64 a,.int .i64 b] 3])
 |[.slice (some ⟨0,0,none⟩) 4 4],[.cs [.int .i64 a,.int .i64 b,.int .i64 c,.int .i64 d] 3]=>some (true,.tuple ⟨[.int .i64 (mn (mn (mn (mn a a) b) c) d),.int .i64 (mx (mx (mx (mx a a) b) c) d)]⟩,[.cs [.int .i64 a,.int .i64 b,.int .i64 c,.int .i64 d] 3])
 |_,_=>none
theorem extremes2 (a b:Int):xfn Tryz.prog ⟨[],[],[]⟩ [] 10 Tryz.f61 [.slice (some ⟨0,0,none⟩) 2 2] [.cs [.int .i64 a,.int .i64 b] 3]=some (.tuple ⟨[.int .i64 (mn (mn a a) b),.int .i64 (mx (mx a a) b)]⟩,[.cs [.int .i64 a,.int .i64 b] 3]):=by kernel_rfl
theorem extremes4 (a b c d:Int):xfn Tryz.prog ⟨[],[],[]⟩ [] 10 Tryz.f61 [.slice (some ⟨0,0,none⟩) 4 4] [.cs [.int .i64 a,.int .i64 b,.int .i64 c,.int .i64 d] 3]=some (.tuple ⟨[.int .i64 (mn (mn (mn (mn a a) b) c) d),.int .i64 (mx (mx (mx (mx a a) b) c) d)]⟩,[.cs [.int .i64 a,.int .i64 b,.int .i64 c,.int .i64 d] 3]):=by kernel_rfl
theorem Fo.ok:SOK Tryz.prog 61 Fo.sp:=by
 refine Cu (E:=⟨[],[],[]⟩) ⟨Ac,Ai,Ad,Ah⟩ 10 Tryz.func61 (by decide) rfl Bv fun vs bl v bl' h=> ?_
 unfold Fo.sp at h
 split at h
 ·simp only [zS,zP,true_and] at h
  obtain ⟨rfl,rfl⟩:=h
  exact ⟨extremes2 _ _,by simp [okV,Nat.blt],clo_spec 8 _ rfl,Ay rfl⟩
 ·simp only [zS,zP,true_and] at h
  obtain ⟨rfl,rfl⟩:=h
  exact ⟨extremes4 _ _ _ _,by simp [okV,Nat.blt],clo_spec 8 _ rfl,Ay rfl⟩
 ·cases h
def IH (k:Nat):Int:=((2^k:Nat):Int)/2
theorem QM:IH 0=0:=by decide
theorem JS (k:Nat):IH (k+1)=((2^k:Nat):Int):=by
 unfold IH
 rw [Nat.pow_succ]
 omega
def root.tree (n r bit:Int) (d1 z d5 d6 d7 d8 d9 d10 d11 d12 d13 d14 d15 d16 d17 d18 d19:Value):Option (X×List Value×Heap):=
 bif decide (bit>0) then
  bif i64.wrap (r+bit) !=0 then
   bif decide (i64.wrap (r+bit)≤i64.wrap (n.tdiv (i64.wrap (r+bit)))) then
    some (.normal,[.int .i64 n,d1,z,.int .i64 (i64.wrap (r+bit)),.int .i64 (bit.fdiv (2^min (Int.toNat 1) i64.bits)),.int .i64 (i64.wrap (r+bit)),.int .i64 bit,.bool true,.int .i64 bit,.int .i64 (bit.fdiv (2^min (Int.toNat 1) i64.bits)),.int .i64 r,.int .i64 bit,.int .i64 (i64.wrap (r+bit)),.int .i64 (i64.wrap (r+bit)),.int .i64 n,.int .i64 (i64.wrap (r+bit)),.int .i64 (i64.wrap (n.tdiv (i64.wrap (r+bit)))),.bool true,.int .i64 (i64.wrap (r+bit)),d19],[])
   else
    some (.normal,[.int .i64 n,d1,z,.int .i64 r,.int .i64 (bit.fdiv (2^min (Int.toNat 1) i64.bits)),.int .i64 (i64.wrap (r+bit)),.int .i64 bit,.bool true,.int .i64 bit,.int .i64 (bit.fdiv (2^min (Int.toNat 1) i64.bits)),.int .i64 r,.int .i64 bit,.int .i64 (i64.wrap (r+bit)),.int .i64 (i64.wrap (r+bit)),.int .i64 n,.int .i64 (i64.wrap (r+bit)),.int .i64 (i64.wrap (n.tdiv (i64.wrap (r+bit)))),.bool false,d18,d19],[])
  else
   none
 else
  some (.exit 0,[.int .i64 n,d1,z,.int .i64 r,.int .i64 bit,d5,.int .i64 bit,.bool false,d8,d9,d10,d11,d12,d13,d14,d15,d16,d17,d18,d19],[])
theorem root.round (n r bit:Int) (d1 z d5 d6 d7 d8 d9 d10 d11 d12 d13 d14 d15 d16 d17 d18 d19:Value) (nx:Nat):exec Tryz.prog ⟨[],[],[]⟩ [] (hs Tryz.prog ⟨[],[],[]⟩ 3).lf (hs Tryz.prog ⟨[],[],[]⟩ 3).cf (Ag Tryz.f80 0) ⟨[.int .i64 n,d1,z,.int .i64 r,.int .i64 bit,d5,d6,d7,d8,d9,d10,d11,d12,d13,d14,d15,d16,d17,d18,d19],[],nx⟩ (fun x S=>some (x,S.tmps,S.heap))=root.tree n r bit d1 z d5 d6 d7 d8 d9 d10 d11 d12 d13 d14 d15 d16 d17 d18 d19:=by kernel_rfl
def root.fin:Nat→List Value→List Value
 |0,T=>T
 | k+1,[.int .i64 n,d1,z,.int .i64 r,.int .i64 bit,d5,d6,d7,d8,d9,d10,d11,d12,d13,d14,d15,d16,d17,d18,d19]=>(match root.tree n r bit d1 z d5 d6 d7 d8 d9 d10 d11 d12 d13 d14 d15 d16 d17 d18 d19 with
  |some (.normal,T,_)=>root.fin k T
  |some (_,T,_)=>T
  |none=>[])
 |_+1,T=>T
def root.rt:Nat→Int→Int→Int
 |0,n,r=>r
 |k+1,n,r=>root.rt k n (if i64.wrap (r+IH (k+1))≤i64.wrap (n.tdiv (i64.wrap (r+IH (k+1)))) then i64.wrap (r+IH (k+1)) else r)
theorem Te (k:Nat):(IH (k+1)).fdiv (2^min (Int.toNat 1) i64.bits)=IH k:=by
 rw [JS]
 show (((2^k:Nat):Int)).fdiv 2=IH k
 rw [Int.fdiv_eq_ediv_of_nonneg _ (by omega)]
 rfl
theorem Tf {k:Nat} (h:k≤32):0≤IH k∧IH k≤2147483648:=by
 have:2^k≤2^32:=Nat.pow_le_pow_right (by omega) h
 unfold IH
 generalize 2^k=m at*
 omega
theorem root.lp:∀(k:Nat) (n r bit:Int) (d1 z d5 d6 d7 d8 d9 d10 d11 d12 d13 d14 d15 d16 d17 d18 d19:Value) (nx:Nat),k≤32→bit=IH k→0≤r→r+2*bit≤4294967296→
  Lp Tryz.prog ⟨[],[],[]⟩ [] 3 (Ag Tryz.f80 0) ⟨[.int .i64 n,d1,z,.int .i64 r,.int .i64 bit,d5,d6,d7,d8,d9,d10,d11,d12,d13,d14,d15,d16,d17,d18,d19],[],nx⟩ (.exit 0) ⟨[.int .i64 n,RX.nth (root.fin (k+1) [.int .i64 n,d1,z,.int .i64 r,.int .i64 bit,d5,d6,d7,d8,d9,d10,d11,d12,d13,d14,d15,d16,d17,d18,d19]) 1,RX.nth (root.fin (k+1) [.int .i64 n,d1,z,.int .i64 r,.int .i64 bit,d5,d6,d7,d8,d9,d10,d11,d12,d13,d14,d15,d16,d17,d18,d19]) 2,.int .i64 (root.rt k n r),RX.nth (root.fin (k+1) [.int .i64 n,d1,z,.int .i64 r,.int .i64 bit,d5,d6,d7,d8,d9,d10,d11,d12,d13,d14,d15,d16,d17,d18,d19]) 4,RX.nth (root.fin (k+1) [.int .i64 n,d1,z,.int .i64 r,.int .i64 bit,d5,d6,d7,d8,d9,d10,d11,d12,d13,d14,d15,d16,d17,d18,d19]) 5,RX.nth (root.fin (k+1) [.int .i64 n,d1,z,.int .i64 r,.int .i64 bit,d5,d6,d7,d8,d9,d10,d11,d12,d13,d14,d15,d16,d17,d18,d19]) 6,RX.nth (root.fin (k+1) [.int .i64 n,d1,z,.int .i64 r,.int .i64 bit,d5,d6,d7,d8,d9,d10,d11,d12,d13,d14,d15,d16,d17,d18,d19]) 7,RX.nth (root.fin (k+1) [.int .i64 n,d1,z,.int .i64 r,.int .i64 bit,d5,d6,d7,d8,d9,d10,d11,d12,d13,d14,d15,d16,d17,d18,d19]) 8,RX.nth (root.fin (k+1) [.int .i64 n,d1,z,.int .i64 r,.int .i64 bit,d5,d6,d7,d8,d9,d10,d11,d12,d13,d14,d15,d16,d17,d18,d19]) 9,RX.nth (root.fin (k+1) [.int .i64 n,d1,z,.int .i64 r,.int .i64 bit,d5,d6,d7,d8,d9,d10,d11,d12,d13,d14,d15,d16,d17,d18,d19]) 10,RX.nth (root.fin (k+1) [.int .i64 n,d1,z,.int .i64 r,.int .i64 bit,d5,d6,d7,d8,d9,d10,d11,d12,d13,d14,d15,d16,d17,d18,d19]) 11,RX.nth (root.fin (k+1) [.int .i64 n,d1,z,.int .i64 r,.int .i64 bit,d5,d6,d7,d8,d9,d10,d11,d12,d13,d14,d15,d16,d17,d18,d19]) 12,RX.nth (root.fin (k+1) [.int .i64 n,d1,z,.int .i64 r,.int .i64 bit,d5,d6,d7,d8,d9,d10,d11,d12,d13,d14,d15,d16,d17,d18,d19]) 13,RX.nth (root.fin (k+1) [.int .i64 n,d1,z,.int .i64 r,.int .i64 bit,d5,d6,d7,d8,d9,d10,d11,d12,d13,d14,d15,d16,d17,d18,d19]) 14,RX.nth (root.fin (k+1) [.int .i64 n,d1,z,.int .i64 r,.int .i64 bit,d5,d6,d7,d8,d9,d10,d11,d12,d13,d14,d15,d16,d17,d18,d19]) 15,RX.nth (root.fin (k+1) [.int .i64 n,d1,z,.int .i64 r,.int .i64 bit,d5,d6,d7,d8,d9,d10,d11,d12,d13,d14,d15,d16,d17,d18,d19]) 16,RX.nth (root.fin (k+1) [.int .i64 n,d1,z,.int .i64 r,.int .i64 bit,d5,d6,d7,d8,d9,d10,d11,d12,d13,d14,d15,d16,d17,d18,d19]) 17,RX.nth (root.fin (k+1) [.int .i64 n,d1,z,.int .i64 r,.int .i64 bit,d5,d6,d7,d8,d9,d10,d11,d12,d13,d14,d15,d16,d17,d18,d19]) 18,RX.nth (root.fin (k+1) [.int .i64 n,d1,z,.int .i64 r,.int .i64 bit,d5,d6,d7,d8,d9,d10,d11,d12,d13,d14,d15,d16,d17,d18,d19]) 19],[],nx⟩
 | 0,n,r,bit,d1,z,d5,d6,d7,d8,d9,d10,d11,d12,d13,d14,d15,d16,d17,d18,d19,nx,hk,hb,hr,hr'=>by
  rw [QM] at hb
  subst hb
  have ht:root.tree n r 0 d1 z d5 d6 d7 d8 d9 d10 d11 d12 d13 d14 d15 d16 d17 d18 d19=some (.exit 0,[.int .i64 n,d1,z,.int .i64 r,.int .i64 0,d5,.int .i64 0,.bool false,d8,d9,d10,d11,d12,d13,d14,d15,d16,d17,d18,d19],[]):=rfl
  have hf:root.fin 1 [.int .i64 n,d1,z,.int .i64 r,.int .i64 0,d5,d6,d7,d8,d9,d10,d11,d12,d13,d14,d15,d16,d17,d18,d19]=[.int .i64 n,d1,z,.int .i64 r,.int .i64 0,d5,.int .i64 0,.bool false,d8,d9,d10,d11,d12,d13,d14,d15,d16,d17,d18,d19]:=by simp only [root.fin,ht]
  rw [hf]
  simp only [RX.nth,root.rt]
  refine Lp.done ((root.round n r 0 d1 z d5 d6 d7 d8 d9 d10 d11 d12 d13 d14 d15 d16 d17 d18 d19 nx).trans ht) trivial (fun h=>h.of fun v hv=>by
   simp only [List.mem_cons,List.not_mem_nil,or_false] at hv
   rcases hv with rfl|rfl|rfl|rfl|rfl|rfl|rfl|rfl|rfl|rfl|rfl|rfl|rfl|rfl|rfl|rfl|rfl|rfl|rfl|rfl<;>first|exact .inl (clo_spec 8 _ rfl)|exact .inr (by simp))
 | k + 1,n,r,bit,d1,z,d5,d6,d7,d8,d9,d10,d11,d12,d13,d14,d15,d16,d17,d18,d19,nx,hk,hb,hr,hr'=>by
  have hbl:=Tf hk
  have hb0:0<bit:=by rw [hb,JS]; have:=Nat.two_pow_pos k; omega
  have hw:i64.wrap (r+bit)=r+bit:=w64 (by omega) (by omega)
  have hbit:bit.fdiv (2^min (Int.toNat 1) i64.bits)=IH k:=by rw [hb]; exact Te k
  have hd1:decide (bit>0)=true:=decide_eq_true hb0
  have hd2:(i64.wrap (r+bit) !=0)=true:=Em (by omega)
  have h2:2*IH k≤bit:=by
   rw [hb,JS]
   unfold IH
   omega
  by_cases hc:i64.wrap (r+bit)≤i64.wrap (n.tdiv (i64.wrap (r+bit)))
  ·have ht:root.tree n r bit d1 z d5 d6 d7 d8 d9 d10 d11 d12 d13 d14 d15 d16 d17 d18 d19=some (.normal,[.int .i64 n,d1,z,.int .i64 (i64.wrap (r+bit)),.int .i64 (bit.fdiv (2^min (Int.toNat 1) i64.bits)),.int .i64 (i64.wrap (r+bit)),.int .i64 bit,.bool true,.int .i64 bit,.int .i64 (bit.fdiv (2^min (Int.toNat 1) i64.bits)),.int .i64 r,.int .i64 bit,.int .i64 (i64.wrap (r+bit)),.int .i64 (i64.wrap (r+bit)),.int .i64 n,.int .i64 (i64.wrap (r+bit)),.int .i64 (i64.wrap (n.tdiv (i64.wrap (r+bit)))),.bool true,.int .i64 (i64.wrap (r+bit)),d19],[]):=by
    simp only [root.tree,hd1,hd2,decide_eq_true hc,cond_true]
   have hf:root.fin (k+1+1) [.int .i64 n,d1,z,.int .i64 r,.int .i64 bit,d5,d6,d7,d8,d9,d10,d11,d12,d13,d14,d15,d16,d17,d18,d19]=root.fin (k+1) [.int .i64 n,d1,z,.int .i64 (i64.wrap (r+bit)),.int .i64 (bit.fdiv (2^min (Int.toNat 1) i64.bits)),.int .i64 (i64.wrap (r+bit)),.int .i64 bit,.bool true,.int .i64 bit,.int .i64 (bit.fdiv (2^min (Int.toNat 1) i64.bits)),.int .i64 r,.int .i64 bit,.int .i64 (i64.wrap (r+bit)),.int .i64 (i64.wrap (r+bit)),.int .i64 n,.int .i64 (i64.wrap (r+bit)),.int .i64 (i64.wrap (n.tdiv (i64.wrap (r+bit)))),.bool true,.int .i64 (i64.wrap (r+bit)),d19]:=by simp only [root.fin,ht]
   have hrt:root.rt (k+1) n r=root.rt k n (i64.wrap (r+bit)):=by
    rw [root.rt,←hb,if_pos hc]
   rw [hf,hrt]
   refine Lp.more ((root.round n r bit d1 z d5 d6 d7 d8 d9 d10 d11 d12 d13 d14 d15 d16 d17 d18 d19 nx).trans ht) (fun h=>h.of fun v hv=>by
   simp only [List.mem_cons,List.not_mem_nil,or_false] at hv
   rcases hv with rfl|rfl|rfl|rfl|rfl|rfl|rfl|rfl|rfl|rfl|rfl|rfl|rfl|rfl|rfl|rfl|rfl|rfl|rfl|rfl<;>first|exact .inl (clo_spec 8 _ rfl)|exact .inr (by simp)) ?_
   exact root.lp k _ _ _ _ _ _ _ _ _ _ _ _ _ _ _ _ _ _ _ _ nx (by omega) hbit (by omega) (by omega)
  ·have ht:root.tree n r bit d1 z d5 d6 d7 d8 d9 d10 d11 d12 d13 d14 d15 d16 d17 d18 d19=some (.normal,[.int .i64 n,d1,z,.int .i64 r,.int .i64 (bit.fdiv (2^min (Int.toNat 1) i64.bits)),.int .i64 (i64.wrap (r+bit)),.int .i64 bit,.bool true,.int .i64 bit,.int .i64 (bit.fdiv (2^min (Int.toNat 1) i64.bits)),.int .i64 r,.int .i64 bit,.int .i64 (i64.wrap (r+bit)),.int .i64 (i64.wrap (r+bit)),.int .i64 n,.int .i64 (i64.wrap (r+bit)),.int .i64 (i64.wrap (n.tdiv (i64.wrap (r+bit)))),.bool false,d18,d19],[]):=by
    simp only [root.tree,hd1,hd2,decide_eq_false hc,cond_true,cond_false]
   have hf:root.fin (k+1+1) [.int .i64 n,d1,z,.int .i64 r,.int .i64 bit,d5,d6,d7,d8,d9,d10,d11,d12,d13,d14,d15,d16,d17,d18,d19]=root.fin (k+1) [.int .i64 n,d1,z,.int .i64 r,.int .i64 (bit.fdiv (2^min (Int.toNat 1) i64.bits)),.int .i64 (i64.wrap (r+bit)),.int .i64 bit,.bool true,.int .i64 bit,.int .i64 (bit.fdiv (2^min (Int.toNat 1) i64.bits)),.int .i64 r,.int .i64 bit,.int .i64 (i64.wrap (r+bit)),.int .i64 (i64.wrap (r+bit)),.int .i64 n,.int .i64 (i64.wrap (r+bit)),.int .i64 (i64.wrap (n.tdiv (i64.wrap (r+bit)))),.bool false,d18,d19]:=by simp only [root.fin,ht]
   have hrt:root.rt (k+1) n r=root.rt k n r:=by
    rw [root.rt,←hb,if_neg hc]
   rw [hf,hrt]
   refine Lp.more ((root.round n r bit d1 z d5 d6 d7 d8 d9 d10 d11 d12 d13 d14 d15 d16 d17 d18 d19 nx).trans ht) (fun h=>h.of fun v hv=>by
   simp only [List.mem_cons,List.not_mem_nil,or_false] at hv
   rcases hv with rfl|rfl|rfl|rfl|rfl|rfl|rfl|rfl|rfl|rfl|rfl|rfl|rfl|rfl|rfl|rfl|rfl|rfl|rfl|rfl<;>first|exact .inl (clo_spec 8 _ rfl)|exact .inr (by simp)) ?_
   exact root.lp k _ _ _ _ _ _ _ _ _ _ _ _ _ _ _ _ _ _ _ _ nx (by omega) hbit (by omega) (by omega)
def root.t:LSpec1
 |⟨[.int .i64 n,d1,z,.int .i64 r,.int .i64 bit,d5,d6,d7,d8,d9,d10,d11,d12,d13,d14,d15,d16,d17,d18,d19],[],nx⟩=>some (decide (r=0)&&decide (bit=2147483648),.exit 0,⟨[.int .i64 n,RX.nth (root.fin 33 [.int .i64 n,d1,z,.int .i64 r,.int .i64 bit,d5,d6,d7,d8,d9,d10,d11,d12,d13,d14,d15,d16,d17,d18,d19]) 1,RX.nth (root.fin 33 [.int .i64 n,d1,z,.int .i64 r,.int .i64 bit,d5,d6,d7,d8,d9,d10,d11,d12,d13,d14,d15,d16,d17,d18,d19]) 2,.int .i64 (root.rt 32 n 0),RX.nth (root.fin 33 [.int .i64 n,d1,z,.int .i64 r,.int .i64 bit,d5,d6,d7,d8,d9,d10,d11,d12,d13,d14,d15,d16,d17,d18,d19]) 4,RX.nth (root.fin 33 [.int .i64 n,d1,z,.int .i64 r,.int .i64 bit,d5,d6,d7,d8,d9,d10,d11,d12,d13,d14,d15,d16,d17,d18,d19]) 5,RX.nth (root.fin 33 [.int .i64 n,d1,z,.int .i64 r,.int .i64 bit,d5,d6,d7,d8,d9,d10,d11,d12,d13,d14,d15,d16,d17,d18,d19]) 6,RX.nth (root.fin 33 [.int .i64 n,d1,z,.int .i64 r,.int .i64 bit,d5,d6,d7,d8,d9,d10,d11,d12,d13,d14,d15,d16,d17,d18,d19]) 7,RX.nth (root.fin 33 [.int .i64 n,d1,z,.int .i64 r,.int .i64 bit,d5,d6,d7,d8,d9,d10,d11,d12,d13,d14,d15,d16,d17,d18,d19]) 8,RX.nth (root.fin 33 [.int .i64 n,d1,z,.int .i64 r,.int .i64 bit,d5,d6,d7,d8,d9,d10,d11,d12,d13,d14,d15,d16,d17,d18,d19]) 9,RX.nth (root.fin 33 [.int .i64 n,d1,z,.int .i64 r,.int .i64 bit,d5,d6,d7,d8,d9,d10,d11,d12,d13,d14,d15,d16,d17,d18,d19]) 10,RX.nth (root.fin 33 [.int .i64 n,d1,z,.int .i64 r,.int .i64 bit,d5,d6,d7,d8,d9,d10,d11,d12,d13,d14,d15,d16,d17,d18,d19]) 11,RX.nth (root.fin 33 [.int .i64 n,d1,z,.int .i64 r,.int .i64 bit,d5,d6,d7,d8,d9,d10,d11,d12,d13,d14,d15,d16,d17,d18,d19]) 12,RX.nth (root.fin 33 [.int .i64 n,d1,z,.int .i64 r,.int .i64 bit,d5,d6,d7,d8,d9,d10,d11,d12,d13,d14,d15,d16,d17,d18,d19]) 13,RX.nth (root.fin 33 [.int .i64 n,d1,z,.int .i64 r,.int .i64 bit,d5,d6,d7,d8,d9,d10,d11,d12,d13,d14,d15,d16,d17,d18,d19]) 14,RX.nth (root.fin 33 [.int .i64 n,d1,z,.int .i64 r,.int .i64 bit,d5,d6,d7,d8,d9,d10,d11,d12,d13,d14,d15,d16,d17,d18,d19]) 15,RX.nth (root.fin 33 [.int .i64 n,d1,z,.int .i64 r,.int .i64 bit,d5,d6,d7,d8,d9,d10,d11,d12,d13,d14,d15,d16,d17,d18,d19]) 16,RX.nth (root.fin 33 [.int .i64 n,d1,z,.int .i64 r,.int .i64 bit,d5,d6,d7,d8,d9,d10,d11,d12,d13,d14,d15,d16,d17,d18,d19]) 17,RX.nth (root.fin 33 [.int .i64 n,d1,z,.int .i64 r,.int .i64 bit,d5,d6,d7,d8,d9,d10,d11,d12,d13,d14,d15,d16,d17,d18,d19]) 18,RX.nth (root.fin 33 [.int .i64 n,d1,z,.int .i64 r,.int .i64 bit,d5,d6,d7,d8,d9,d10,d11,d12,d13,d14,d15,d16,d17,d18,d19]) 19],[],nx⟩)
 |_=>none
theorem root.lok:LOK Tryz.prog (Ag Tryz.f80 0) (one1 root.t):=by
 refine lok_of (E:=⟨[],[],[]⟩) (L:=[]) (f:=3) ⟨Ac,Ai,Ad,Ah⟩ Be fun S x S' h=> ?_
 unfold root.t at h
 split at h
 ·simp only [zS,zP,zB,zD] at h
  obtain ⟨⟨rfl,rfl⟩,rfl,rfl⟩:=h
  exact root.lp 32 _ _ _ _ _ _ _ _ _ _ _ _ _ _ _ _ _ _ _ _ _ (by omega) (by decide) (by omega) (by omega)
 ·cases h
def HH.sp:HSpec
 |[.int .i64 n],[]=>some (true,.int .i64 (root.rt 32 n 0),[])
 |_,_=>none
theorem root.run (n:Int):xfn Tryz.prog ⟨[],[],[]⟩ [(0,one1 root.t)] 10 Tryz.f80 [.int .i64 n] []=some (.int .i64 (root.rt 32 n 0),[]):=by kernel_rfl
theorem HH.ok:SOK Tryz.prog 80 HH.sp:=by
 refine Cu (E:=⟨[],[],[]⟩) (L:=[(0,one1 root.t)]) ⟨Ac,Ai,Ad,Ah⟩ 10 Tryz.func80 (by decide) rfl (Ga rfl rfl root.lok) fun vs bl v bl' h=> ?_
 unfold HH.sp at h
 split at h
 ·simp only [zS,zP,true_and] at h
  obtain ⟨rfl,rfl⟩:=h
  exact ⟨root.run _,by simp [okV,Nat.blt],clo_spec 8 _ rfl,Ay rfl⟩
 ·cases h
end Go.Proofs.YtphlckkbihmlnaaGreatDoor.G
end
