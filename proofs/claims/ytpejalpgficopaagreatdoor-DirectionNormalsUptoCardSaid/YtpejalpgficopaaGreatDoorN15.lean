/- A part of what the law's proof leans on. PACKED BY pack.py of this repo. -/
import Derived.Test.YtpejalpgficopaaGreatDoorN14
set_option linter.unusedVariables false
set_option linter.unusedSimpArgs false
set_option linter.defProp false
set_option linter.unusedSectionVars false
section
namespace Go.Proofs.YtpejalpgficopaaGreatDoor.G
set_option maxRecDepth 100000
open Go Go.Proofs Go.RowKit RX
section
variable {R:Type} (B9:TF5 (Bool)) (B8:TF5 Bool) (A3:Bool) (A2:ByteArray) (A6:Bool) (A5:ByteArray) (A4:Bool) (A9:ByteArray) (A8:Bool) (A7:ByteArray) (AB:Bool) (AA:ByteArray) (B5:Bool) (B4:ByteArray) (B3:Bool) (B2:ByteArray) (AZ:Bool) (AY:ByteArray) (AX:Bool) (AW:ByteArray) (AV:Bool) (AU:ByteArray) (AT:Bool) (AS:ByteArray) (AR:Bool) (AQ:ByteArray) (AP:Bool) (AO:ByteArray) (AN:Bool) (AM:ByteArray) (AL:Bool) (AK:ByteArray)
noncomputable def culetref04_Valid.K (k:(Bool)→Option R):Option R:=
 let t0:=B8 A3 A2 A6 A5 A4 A9 A8 A7 AB AA
 bif t0 then
 let t1:=B9 A3 A2 A6 A5 A4 A9 A8 A7 AB AA
 bif t1 then
 let t2:=B8 B5 B4 B3 B2 AZ AY AX AW AV AU
 bif t2 then
 let t3:=B9 B5 B4 B3 B2 AZ AY AX AW AV AU
 bif t3 then
 let t4:=B8 AT AS AR AQ AP AO AN AM AL AK
 bif t4 then
 let t5:=B9 AT AS AR AQ AP AO AN AM AL AK
 k (t5) else none else k (false) else none else k (false) else none
theorem culetref04_Valid.run:xfn Tryz.prog ⟨[(52,culetref02_Valid.sp B9 B8)],[],[]⟩ [] 60 Tryz.f42 [.agg ⟨[.bool A3,.string A2,.bool A6,.string A5,.bool A4,.string A9,.bool A8,.string A7,.bool AB,.string AA,.bool B5,.string B4,.bool B3,.string B2,.bool AZ,.string AY,.bool AX,.string AW,.bool AV,.string AU,.bool AT,.string AS,.bool AR,.string AQ,.bool AP,.string AO,.bool AN,.string AM,.bool AL,.string AK]⟩] []=culetref04_Valid.K B9 B8 A3 A2 A6 A5 A4 A9 A8 A7 AB AA B5 B4 B3 B2 AZ AY AX AW AV AU AT AS AR AQ AP AO AN AM AL AK (fun r=>some (.bool r,[])):=by kernel_rfl
noncomputable def culetref04_Valid.o:Option (Bool):=culetref04_Valid.K culetref02_Valid culetref02_Valid.pre A3 A2 A6 A5 A4 A9 A8 A7 AB AA B5 B4 B3 B2 AZ AY AX AW AV AU AT AS AR AQ AP AO AN AM AL AK some
noncomputable def culetref04_Valid.pre:Bool:=(culetref04_Valid.o A3 A2 A6 A5 A4 A9 A8 A7 AB AA B5 B4 B3 B2 AZ AY AX AW AV AU AT AS AR AQ AP AO AN AM AL AK).isSome
noncomputable def culetref04_Valid:Bool:=(culetref04_Valid.o A3 A2 A6 A5 A4 A9 A8 A7 AB AA B5 B4 B3 B2 AZ AY AX AW AV AU AT AS AR AQ AP AO AN AM AL AK).getD default
theorem culetref04_Valid.nat (k:(Bool)→Option R):culetref04_Valid.K B9 B8 A3 A2 A6 A5 A4 A9 A8 A7 AB AA B5 B4 B3 B2 AZ AY AX AW AV AU AT AS AR AQ AP AO AN AM AL AK k=(culetref04_Valid.K B9 B8 A3 A2 A6 A5 A4 A9 A8 A7 AB AA B5 B4 B3 B2 AZ AY AX AW AV AU AT AS AR AQ AP AO AN AM AL AK some).bind k:=by
 simp only [culetref04_Valid.K,bcond,Option.bind_some,Option.bind_none]
end
structure Q.Le (m:Nat) (q:Q):Prop where
 c0:q.c0.natAbs≤m
 c1:q.c1.natAbs≤m
 c2:q.c2.natAbs≤m
 c3:q.c3.natAbs≤m
 d:q.d.natAbs≤m
theorem Q.Le.mono {m n:Nat} {q:Q} (h:q.Le m) (hm:m≤n):q.Le n:=⟨Nat.le_trans h.c0 hm,Nat.le_trans h.c1 hm,Nat.le_trans h.c2 hm,Nat.le_trans h.c3 hm,Nat.le_trans h.d hm⟩
theorem n5_gg (c0 c1 c2 c3 d:Int):gI (gI (gI (gI (gI 0 c0) c1) c2) c3) d=gg c0 c1 c2 c3 d:=by
 obtain ⟨d4,d0,d1,d2,d3⟩:=gg_dvd c0 c1 c2 c3 d
 have h1:=dvd_gI (dvd_gI (dvd_gI (dvd_gI (dvd_gI (Int.dvd_zero _) d0) d1) d2) d3) d4
 have e4:=gI_dvd (gI (gI (gI (gI 0 c0) c1) c2) c3) d
 have e3:=gI_dvd (gI (gI (gI 0 c0) c1) c2) c3
 have e2:=gI_dvd (gI (gI 0 c0) c1) c2
 have e1:=gI_dvd (gI 0 c0) c1
 have e0:=gI_dvd 0 c0
 have h2:=dvd_gg e4.2 (Int.dvd_trans e4.1 (Int.dvd_trans e3.1 (Int.dvd_trans e2.1 (Int.dvd_trans e1.1 e0.2)))) (Int.dvd_trans e4.1 (Int.dvd_trans e3.1 (Int.dvd_trans e2.1 e1.2))) (Int.dvd_trans e4.1 (Int.dvd_trans e3.1 e2.2)) (Int.dvd_trans e4.1 e3.2)
 have h3:=gg_nonneg c0 c1 c2 c3 d
 have h4:=gI_nonneg (gI (gI (gI (gI 0 c0) c1) c2) c3) d
 have h5:=Nat.dvd_antisymm (Int.natAbs_dvd_natAbs.2 h2) (Int.natAbs_dvd_natAbs.2 h1)
 omega
theorem wdok_dI {c:Int} (h:c.natAbs≤16777215):wdok (dI c).1 (dI c).2=true:=by
 have e:p8 3=16777216:=by decide
 have:(dI c).2.size≤3:=bd_size (k:=3) (by unfold Bd; omega)
 simp [wdok,Nat.ble_eq_true_of_le this]
theorem words_dI {q:Q} (h:q.Le 16777215):culetref02_words (dI q.c0).1 (dI q.c0).2 (dI q.c1).1 (dI q.c1).2 (dI q.c2).1 (dI q.c2).2 (dI q.c3).1 (dI q.c3).2 (dI q.d).1 (dI q.d).2=(q.c0,q.c1,q.c2,q.c3,q.d,true):=by
 simp only [culetref02_words,wdok_dI h.c0,wdok_dI h.c1,wdok_dI h.c2,wdok_dI h.c3,wdok_dI h.d,vl_dI,Bool.and_self,cond_true]
theorem wgok_of {x:Int} (h:x.natAbs≤4611686018427387904):wgok x=true:=by simp only [wgok,Bool.and_eq_true,decide_eq_true_eq]; omega
theorem r_gcd_pre {q:Q} (h:q.Le 4611686018427387904):culetref02_gcd.pre q.c0 q.c1 q.c2 q.c3 q.d=true:=by
 simp only [culetref02_gcd.pre,wgok_of h.c0,wgok_of h.c1,wgok_of h.c2,wgok_of h.c3,wgok_of h.d,Bool.and_self]
theorem r_gcd_eq (q:Q):culetref02_gcd q.c0 q.c1 q.c2 q.c3 q.d=q.g:=n5_gg _ _ _ _ _
theorem culetref02_Valid.os {q:Q} (h:q.Le 16777215):culetref02_Valid.o (dI q.c0).1 (dI q.c0).2 (dI q.c1).1 (dI q.c1).2 (dI q.c2).1 (dI q.c2).2 (dI q.c3).1 (dI q.c3).2 (dI q.d).1 (dI q.d).2=some q.ok:=by
 simp only [culetref02_Valid.o,culetref02_Valid.K,words_dI h,cond_true,r_gcd_pre (h.mono (by decide)),r_gcd_eq]
 unfold Q.ok
 by_cases p:0<q.d
 ·rw [decide_eq_true (show q.d>0 from p),cond_true,Bool.true_and]
 ·rw [decide_eq_false (show ¬q.d>0 from p),cond_false,Bool.false_and]
theorem culetref02_Valid.ps {q:Q} (h:q.Le 16777215):culetref02_Valid.pre (dI q.c0).1 (dI q.c0).2 (dI q.c1).1 (dI q.c1).2 (dI q.c2).1 (dI q.c2).2 (dI q.c3).1 (dI q.c3).2 (dI q.d).1 (dI q.d).2=true:=isSome_of (culetref02_Valid.os h)
theorem culetref02_Valid.es {q:Q} (h:q.Le 16777215):culetref02_Valid (dI q.c0).1 (dI q.c0).2 (dI q.c1).1 (dI q.c1).2 (dI q.c2).1 (dI q.c2).2 (dI q.c3).1 (dI q.c3).2 (dI q.d).1 (dI q.d).2=q.ok:=getD_of (culetref02_Valid.os h)
theorem culetref04_Valid.os {x y z:Q} (hx:x.Le 16777215) (hy:y.Le 16777215) (hz:z.Le 16777215):culetref04_Valid.o (dI x.c0).1 (dI x.c0).2 (dI x.c1).1 (dI x.c1).2 (dI x.c2).1 (dI x.c2).2 (dI x.c3).1 (dI x.c3).2 (dI x.d).1 (dI x.d).2 (dI y.c0).1 (dI y.c0).2 (dI y.c1).1 (dI y.c1).2 (dI y.c2).1 (dI y.c2).2 (dI y.c3).1 (dI y.c3).2 (dI y.d).1 (dI y.d).2 (dI z.c0).1 (dI z.c0).2 (dI z.c1).1 (dI z.c1).2 (dI z.c2).1 (dI z.c2).2 (dI z.c3).1 (dI z.c3).2 (dI z.d).1 (dI z.d).2=some (x.ok&&(y.ok&&z.ok)):=by
 simp only [culetref04_Valid.o,culetref04_Valid.K,culetref02_Valid.ps hx,culetref02_Valid.es hx,culetref02_Valid.ps hy,culetref02_Valid.es hy,culetref02_Valid.ps hz,culetref02_Valid.es hz,cond_true]
 cases x.ok<;>cases y.ok<;>rfl
theorem culetref04_Valid.ps {x y z:Q} (hx:x.Le 16777215) (hy:y.Le 16777215) (hz:z.Le 16777215):culetref04_Valid.pre (dI x.c0).1 (dI x.c0).2 (dI x.c1).1 (dI x.c1).2 (dI x.c2).1 (dI x.c2).2 (dI x.c3).1 (dI x.c3).2 (dI x.d).1 (dI x.d).2 (dI y.c0).1 (dI y.c0).2 (dI y.c1).1 (dI y.c1).2 (dI y.c2).1 (dI y.c2).2 (dI y.c3).1 (dI y.c3).2 (dI y.d).1 (dI y.d).2 (dI z.c0).1 (dI z.c0).2 (dI z.c1).1 (dI z.c1).2 (dI z.c2).1 (dI z.c2).2 (dI z.c3).1 (dI z.c3).2 (dI z.d).1 (dI z.d).2=true:=isSome_of (culetref04_Valid.os hx hy hz)
theorem culetref04_Valid.es {x y z:Q} (hx:x.Le 16777215) (hy:y.Le 16777215) (hz:z.Le 16777215):culetref04_Valid (dI x.c0).1 (dI x.c0).2 (dI x.c1).1 (dI x.c1).2 (dI x.c2).1 (dI x.c2).2 (dI x.c3).1 (dI x.c3).2 (dI x.d).1 (dI x.d).2 (dI y.c0).1 (dI y.c0).2 (dI y.c1).1 (dI y.c1).2 (dI y.c2).1 (dI y.c2).2 (dI y.c3).1 (dI y.c3).2 (dI y.d).1 (dI y.d).2 (dI z.c0).1 (dI z.c0).2 (dI z.c1).1 (dI z.c1).2 (dI z.c2).1 (dI z.c2).2 (dI z.c3).1 (dI z.c3).2 (dI z.d).1 (dI z.d).2=(x.ok&&(y.ok&&z.ok)):=getD_of (culetref04_Valid.os hx hy hz)
theorem culetref04_Valid.ok:SOK Tryz.prog 42 (culetref04_Valid.sp culetref04_Valid culetref04_Valid.pre):=by
 refine sok_of (E:=⟨[(52,culetref02_Valid.sp culetref02_Valid culetref02_Valid.pre)],[],[]⟩) (L:=[]) ⟨(specs_cons culetref02_Valid.ok specs_nil),inl_nil,mixed_ok,lps_nil⟩ 60 Tryz.func42 (by decide) rfl no_loops fun vs bl v bl' h=> ?_
 unfold culetref04_Valid.sp at h
 split at h
 ·rename_i A3 A2 A6 A5 A4 A9 A8 A7 AB AA B5 B4 B3 B2 AZ AY AX AW AV AU AT AS AR AQ AP AO AN AM AL AK
  simp only [Option.some.injEq,Prod.mk.injEq] at h
  obtain ⟨hp,rfl,rfl⟩:=h
  have hr:=culetref04_Valid.run culetref02_Valid culetref02_Valid.pre A3 A2 A6 A5 A4 A9 A8 A7 AB AA B5 B4 B3 B2 AZ AY AX AW AV AU AT AS AR AQ AP AO AN AM AL AK
  rw [culetref04_Valid.nat] at hr
  obtain ⟨r,h2⟩:=Option.isSome_iff_exists.1 (hp:(culetref04_Valid.o A3 A2 A6 A5 A4 A9 A8 A7 AB AA B5 B4 B3 B2 AZ AY AX AW AV AU AT AS AR AQ AP AO AN AM AL AK).isSome=true)
  have h3:culetref04_Valid A3 A2 A6 A5 A4 A9 A8 A7 AB AA B5 B4 B3 B2 AZ AY AX AW AV AU AT AS AR AQ AP AO AN AM AL AK=r:=by unfold culetref04_Valid; rw [h2]; rfl
  have h4:culetref04_Valid.K culetref02_Valid culetref02_Valid.pre A3 A2 A6 A5 A4 A9 A8 A7 AB AA B5 B4 B3 B2 AZ AY AX AW AV AU AT AS AR AQ AP AO AN AM AL AK some=some r:=h2
  rw [h4,Option.bind_some] at hr
  rw [h3]
  exact ⟨hr,by simp [okV,Nat.blt],clo_spec 8 _ (by kernel_rfl),told_blk (by kernel_rfl)⟩
 ·cases h
section
variable {R:Type} (BP:Int→(Bool×ByteArray)) (BO:Int→Bool) (a0:Int)
noncomputable def culetref02_Of.K (k:TY5→Option R):Option R:=
 let t0:=BO a0
 bif t0 then
 let t1:=BO 1
 bif t1 then
 let t2:=BP a0
 let t3:=BP 1
 k (t2.1,t2.2,false,{data:= #[]},false,{data:= #[]},false,{data:= #[]},t3.1,t3.2) else none else none
theorem culetref02_Of.run:xfn Tryz.prog ⟨[(53,culetref01_Of.sp BP BO)],[],[]⟩ [] 60 Tryz.f13 [.int .i64 a0] []=culetref02_Of.K BP BO a0 (fun r=>some (.agg ⟨[.bool r.1,.string r.2.1,.bool r.2.2.1,.string r.2.2.2.1,.bool r.2.2.2.2.1,.string r.2.2.2.2.2.1,.bool r.2.2.2.2.2.2.1,.string r.2.2.2.2.2.2.2.1,.bool r.2.2.2.2.2.2.2.2.1,.string r.2.2.2.2.2.2.2.2.2]⟩,[])):=by kernel_rfl
noncomputable def culetref02_Of.o (a0:Int):Option (TY5):=culetref02_Of.K culetref01_Of culetref01_Of.pre a0 some
noncomputable def culetref02_Of.pre (a0:Int):Bool:=(culetref02_Of.o a0).isSome
noncomputable def culetref02_Of (a0:Int):TY5:=(culetref02_Of.o a0).getD default
theorem culetref02_Of.nat (k:TY5→Option R):culetref02_Of.K BP BO a0 k=(culetref02_Of.K BP BO a0 some).bind k:=by
 simp only [culetref02_Of.K,bcond,Option.bind_some,Option.bind_none]
theorem culetref02_Of.os {n:Int} (h: -9223372036854775808≤n) (h':n≤9223372036854775807):culetref02_Of.o n=some (C5 (qof n)):=by
 have p:culetref01_Of.pre n=true:=by simp [culetref01_Of.pre,h,h']
 simp only [culetref02_Of.o,culetref02_Of.K,p,show culetref01_Of.pre 1=true from rfl,show culetref01_Of n=dI n from rfl,show culetref01_Of 1=dI 1 from rfl,cond_true,C5,qof,dI_zero]
theorem culetref02_Of.ps {n:Int} (h: -9223372036854775808≤n) (h':n≤9223372036854775807):culetref02_Of.pre n=true:=isSome_of (culetref02_Of.os h h')
theorem culetref02_Of.es {n:Int} (h: -9223372036854775808≤n) (h':n≤9223372036854775807):culetref02_Of n=C5 (qof n):=getD_of (culetref02_Of.os h h')
end
theorem culetref02_Of.ok:SOK Tryz.prog 13 (culetref02_Of.sp culetref02_Of culetref02_Of.pre):=by
 refine sok_of (E:=⟨[(53,culetref01_Of.sp culetref01_Of culetref01_Of.pre)],[],[]⟩) (L:=[]) ⟨(specs_cons culetref01_Of.ok specs_nil),inl_nil,mixed_ok,lps_nil⟩ 60 Tryz.func13 (by decide) rfl no_loops fun vs bl v bl' h=> ?_
 unfold culetref02_Of.sp at h
 split at h
 ·rename_i a0
  simp only [Option.some.injEq,Prod.mk.injEq] at h
  obtain ⟨hp,rfl,rfl⟩:=h
  have hr:=culetref02_Of.run culetref01_Of culetref01_Of.pre a0
  rw [culetref02_Of.nat] at hr
  obtain ⟨r,h2⟩:=Option.isSome_iff_exists.1 (hp:(culetref02_Of.o a0).isSome=true)
  have h3:culetref02_Of a0=r:=by unfold culetref02_Of; rw [h2]; rfl
  have h4:culetref02_Of.K culetref01_Of culetref01_Of.pre a0 some=some r:=h2
  rw [h4,Option.bind_some] at hr
  rw [h3]
  exact ⟨hr,by simp [okV,Nat.blt],clo_spec 8 _ (by kernel_rfl),told_blk (by kernel_rfl)⟩
 ·cases h
section
variable {R:Type} (CF:Int→(TY5)) (CE:Int→Bool) (a0:Int) (a1:Int) (a2:Int)
noncomputable def culetref04_Of.K (k:TY15→Option R):Option R:=
 let t0:=CE a0
 bif t0 then
 let t1:=CE a1
 bif t1 then
 let t2:=CE a2
 bif t2 then
 let t3:=CF a0
 let t4:=CF a1
 let t5:=CF a2
 k (t3.1,t3.2.1,t3.2.2.1,t3.2.2.2.1,t3.2.2.2.2.1,t3.2.2.2.2.2.1,t3.2.2.2.2.2.2.1,t3.2.2.2.2.2.2.2.1,t3.2.2.2.2.2.2.2.2.1,t3.2.2.2.2.2.2.2.2.2,t4.1,t4.2.1,t4.2.2.1,t4.2.2.2.1,t4.2.2.2.2.1,t4.2.2.2.2.2.1,t4.2.2.2.2.2.2.1,t4.2.2.2.2.2.2.2.1,t4.2.2.2.2.2.2.2.2.1,t4.2.2.2.2.2.2.2.2.2,t5.1,t5.2.1,t5.2.2.1,t5.2.2.2.1,t5.2.2.2.2.1,t5.2.2.2.2.2.1,t5.2.2.2.2.2.2.1,t5.2.2.2.2.2.2.2.1,t5.2.2.2.2.2.2.2.2.1,t5.2.2.2.2.2.2.2.2.2) else none else none else none
theorem culetref04_Of.run:xfn Tryz.prog ⟨[(13,culetref02_Of.sp CF CE)],[],[]⟩ [] 60 Tryz.f97 [.int .i64 a0,.int .i64 a1,.int .i64 a2] []=culetref04_Of.K CF CE a0 a1 a2 (fun r=>some (.agg ⟨[.bool r.1,.string r.2.1,.bool r.2.2.1,.string r.2.2.2.1,.bool r.2.2.2.2.1,.string r.2.2.2.2.2.1,.bool r.2.2.2.2.2.2.1,.string r.2.2.2.2.2.2.2.1,.bool r.2.2.2.2.2.2.2.2.1,.string r.2.2.2.2.2.2.2.2.2.1,.bool r.2.2.2.2.2.2.2.2.2.2.1,.string r.2.2.2.2.2.2.2.2.2.2.2.1,.bool r.2.2.2.2.2.2.2.2.2.2.2.2.1,.string r.2.2.2.2.2.2.2.2.2.2.2.2.2.1,.bool r.2.2.2.2.2.2.2.2.2.2.2.2.2.2.1,.string r.2.2.2.2.2.2.2.2.2.2.2.2.2.2.2.1,.bool r.2.2.2.2.2.2.2.2.2.2.2.2.2.2.2.2.1,.string r.2.2.2.2.2.2.2.2.2.2.2.2.2.2.2.2.2.1,.bool r.2.2.2.2.2.2.2.2.2.2.2.2.2.2.2.2.2.2.1,.string r.2.2.2.2.2.2.2.2.2.2.2.2.2.2.2.2.2.2.2.1,.bool r.2.2.2.2.2.2.2.2.2.2.2.2.2.2.2.2.2.2.2.2.1,.string r.2.2.2.2.2.2.2.2.2.2.2.2.2.2.2.2.2.2.2.2.2.1,.bool r.2.2.2.2.2.2.2.2.2.2.2.2.2.2.2.2.2.2.2.2.2.2.1,.string r.2.2.2.2.2.2.2.2.2.2.2.2.2.2.2.2.2.2.2.2.2.2.2.1,.bool r.2.2.2.2.2.2.2.2.2.2.2.2.2.2.2.2.2.2.2.2.2.2.2.2.1,.string r.2.2.2.2.2.2.2.2.2.2.2.2.2.2.2.2.2.2.2.2.2.2.2.2.2.1,.bool r.2.2.2.2.2.2.2.2.2.2.2.2.2.2.2.2.2.2.2.2.2.2.2.2.2.2.1,.string r.2.2.2.2.2.2.2.2.2.2.2.2.2.2.2.2.2.2.2.2.2.2.2.2.2.2.2.1,.bool r.2.2.2.2.2.2.2.2.2.2.2.2.2.2.2.2.2.2.2.2.2.2.2.2.2.2.2.2.1,.string r.2.2.2.2.2.2.2.2.2.2.2.2.2.2.2.2.2.2.2.2.2.2.2.2.2.2.2.2.2]⟩,[])):=by kernel_rfl
noncomputable def culetref04_Of.o:Option (TY15):=culetref04_Of.K culetref02_Of culetref02_Of.pre a0 a1 a2 some
noncomputable def culetref04_Of.pre:Bool:=(culetref04_Of.o a0 a1 a2).isSome
noncomputable def culetref04_Of:TY15:=(culetref04_Of.o a0 a1 a2).getD default
theorem culetref04_Of.nat (k:TY15→Option R):culetref04_Of.K CF CE a0 a1 a2 k=(culetref04_Of.K CF CE a0 a1 a2 some).bind k:=by
 simp only [culetref04_Of.K,bcond,Option.bind_some,Option.bind_none]
end
theorem culetref04_Of.os:culetref04_Of.o 0 0 0=some ((dI (qof 0).c0).1,(dI (qof 0).c0).2,(dI (qof 0).c1).1,(dI (qof 0).c1).2,(dI (qof 0).c2).1,(dI (qof 0).c2).2,(dI (qof 0).c3).1,(dI (qof 0).c3).2,(dI (qof 0).d).1,(dI (qof 0).d).2,(dI (qof 0).c0).1,(dI (qof 0).c0).2,(dI (qof 0).c1).1,(dI (qof 0).c1).2,(dI (qof 0).c2).1,(dI (qof 0).c2).2,(dI (qof 0).c3).1,(dI (qof 0).c3).2,(dI (qof 0).d).1,(dI (qof 0).d).2,(dI (qof 0).c0).1,(dI (qof 0).c0).2,(dI (qof 0).c1).1,(dI (qof 0).c1).2,(dI (qof 0).c2).1,(dI (qof 0).c2).2,(dI (qof 0).c3).1,(dI (qof 0).c3).2,(dI (qof 0).d).1,(dI (qof 0).d).2):=by
 have p:=culetref02_Of.ps (n:=0) (by decide) (by decide)
 have e:=culetref02_Of.es (n:=0) (by decide) (by decide)
 simp only [culetref04_Of.o,culetref04_Of.K,p,e,cond_true]
 rfl
theorem culetref04_Of.ps:culetref04_Of.pre 0 0 0=true:=isSome_of culetref04_Of.os
theorem culetref04_Of.es:culetref04_Of 0 0 0=((dI (qof 0).c0).1,(dI (qof 0).c0).2,(dI (qof 0).c1).1,(dI (qof 0).c1).2,(dI (qof 0).c2).1,(dI (qof 0).c2).2,(dI (qof 0).c3).1,(dI (qof 0).c3).2,(dI (qof 0).d).1,(dI (qof 0).d).2,(dI (qof 0).c0).1,(dI (qof 0).c0).2,(dI (qof 0).c1).1,(dI (qof 0).c1).2,(dI (qof 0).c2).1,(dI (qof 0).c2).2,(dI (qof 0).c3).1,(dI (qof 0).c3).2,(dI (qof 0).d).1,(dI (qof 0).d).2,(dI (qof 0).c0).1,(dI (qof 0).c0).2,(dI (qof 0).c1).1,(dI (qof 0).c1).2,(dI (qof 0).c2).1,(dI (qof 0).c2).2,(dI (qof 0).c3).1,(dI (qof 0).c3).2,(dI (qof 0).d).1,(dI (qof 0).d).2):=getD_of culetref04_Of.os
theorem culetref04_Of.ok:SOK Tryz.prog 97 (culetref04_Of.sp culetref04_Of culetref04_Of.pre):=by
 refine sok_of (E:=⟨[(13,culetref02_Of.sp culetref02_Of culetref02_Of.pre)],[],[]⟩) (L:=[]) ⟨(specs_cons culetref02_Of.ok specs_nil),inl_nil,mixed_ok,lps_nil⟩ 60 Tryz.func97 (by decide) rfl no_loops fun vs bl v bl' h=> ?_
 unfold culetref04_Of.sp at h
 split at h
 ·rename_i a0 a1 a2
  simp only [Option.some.injEq,Prod.mk.injEq] at h
  obtain ⟨hp,rfl,rfl⟩:=h
  have hr:=culetref04_Of.run culetref02_Of culetref02_Of.pre a0 a1 a2
  rw [culetref04_Of.nat] at hr
  obtain ⟨r,h2⟩:=Option.isSome_iff_exists.1 (hp:(culetref04_Of.o a0 a1 a2).isSome=true)
  have h3:culetref04_Of a0 a1 a2=r:=by unfold culetref04_Of; rw [h2]; rfl
  have h4:culetref04_Of.K culetref02_Of culetref02_Of.pre a0 a1 a2 some=some r:=h2
  rw [h4,Option.bind_some] at hr
  rw [h3]
  exact ⟨hr,by simp [okV,Nat.blt],clo_spec 8 _ (by kernel_rfl),told_blk (by kernel_rfl)⟩
 ·cases h
section
variable {R:Type} (EM:Int→Int→Int→(TY15)) (EK:Int→Int→Int→Bool) (A3:Bool) (A2:ByteArray) (A6:Bool) (A5:ByteArray) (A4:Bool) (A9:ByteArray) (A8:Bool) (A7:ByteArray) (AB:Bool) (AA:ByteArray) (B5:Bool) (B4:ByteArray) (B3:Bool) (B2:ByteArray) (AZ:Bool) (AY:ByteArray) (AX:Bool) (AW:ByteArray) (AV:Bool) (AU:ByteArray) (AT:Bool) (AS:ByteArray) (AR:Bool) (AQ:ByteArray) (AP:Bool) (AO:ByteArray) (AN:Bool) (AM:ByteArray) (AL:Bool) (AK:ByteArray)
noncomputable def culetref04_Zero.K (k:(Bool)→Option R):Option R:=
 let t0:=EK 0 0 0
 bif t0 then
 let t1:=EM 0 0 0
 k (A3==t1.1&&A2.toList==t1.2.1.toList&&(A6==t1.2.2.1&&A5.toList==t1.2.2.2.1.toList&&(A4==t1.2.2.2.2.1&&A9.toList==t1.2.2.2.2.2.1.toList&&(A8==t1.2.2.2.2.2.2.1&&A7.toList==t1.2.2.2.2.2.2.2.1.toList)))&&(AB==t1.2.2.2.2.2.2.2.2.1&&AA.toList==t1.2.2.2.2.2.2.2.2.2.1.toList)&&(B5==t1.2.2.2.2.2.2.2.2.2.2.1&&B4.toList==t1.2.2.2.2.2.2.2.2.2.2.2.1.toList&&(B3==t1.2.2.2.2.2.2.2.2.2.2.2.2.1&&B2.toList==t1.2.2.2.2.2.2.2.2.2.2.2.2.2.1.toList&&(AZ==t1.2.2.2.2.2.2.2.2.2.2.2.2.2.2.1&&AY.toList==t1.2.2.2.2.2.2.2.2.2.2.2.2.2.2.2.1.toList&&(AX==t1.2.2.2.2.2.2.2.2.2.2.2.2.2.2.2.2.1&&AW.toList==t1.2.2.2.2.2.2.2.2.2.2.2.2.2.2.2.2.2.1.toList)))&&(AV==t1.2.2.2.2.2.2.2.2.2.2.2.2.2.2.2.2.2.2.1&&AU.toList==t1.2.2.2.2.2.2.2.2.2.2.2.2.2.2.2.2.2.2.2.1.toList)&&(AT==t1.2.2.2.2.2.2.2.2.2.2.2.2.2.2.2.2.2.2.2.2.1&&AS.toList==t1.2.2.2.2.2.2.2.2.2.2.2.2.2.2.2.2.2.2.2.2.2.1.toList&&(AR==t1.2.2.2.2.2.2.2.2.2.2.2.2.2.2.2.2.2.2.2.2.2.2.1&&AQ.toList==t1.2.2.2.2.2.2.2.2.2.2.2.2.2.2.2.2.2.2.2.2.2.2.2.1.toList&&(AP==t1.2.2.2.2.2.2.2.2.2.2.2.2.2.2.2.2.2.2.2.2.2.2.2.2.1&&AO.toList==t1.2.2.2.2.2.2.2.2.2.2.2.2.2.2.2.2.2.2.2.2.2.2.2.2.2.1.toList&&(AN==t1.2.2.2.2.2.2.2.2.2.2.2.2.2.2.2.2.2.2.2.2.2.2.2.2.2.2.1&&AM.toList==t1.2.2.2.2.2.2.2.2.2.2.2.2.2.2.2.2.2.2.2.2.2.2.2.2.2.2.2.1.toList)))&&(AL==t1.2.2.2.2.2.2.2.2.2.2.2.2.2.2.2.2.2.2.2.2.2.2.2.2.2.2.2.2.1&&AK.toList==t1.2.2.2.2.2.2.2.2.2.2.2.2.2.2.2.2.2.2.2.2.2.2.2.2.2.2.2.2.2.toList)))) else none
theorem culetref04_Zero.run:xfn Tryz.prog ⟨[(97,culetref04_Of.sp EM EK)],[],[]⟩ [] 60 Tryz.f51 [.agg ⟨[.bool A3,.string A2,.bool A6,.string A5,.bool A4,.string A9,.bool A8,.string A7,.bool AB,.string AA,.bool B5,.string B4,.bool B3,.string B2,.bool AZ,.string AY,.bool AX,.string AW,.bool AV,.string AU,.bool AT,.string AS,.bool AR,.string AQ,.bool AP,.string AO,.bool AN,.string AM,.bool AL,.string AK]⟩] []=culetref04_Zero.K EM EK A3 A2 A6 A5 A4 A9 A8 A7 AB AA B5 B4 B3 B2 AZ AY AX AW AV AU AT AS AR AQ AP AO AN AM AL AK (fun r=>some (.bool r,[])):=by kernel_rfl
noncomputable def culetref04_Zero.o:Option (Bool):=culetref04_Zero.K culetref04_Of culetref04_Of.pre A3 A2 A6 A5 A4 A9 A8 A7 AB AA B5 B4 B3 B2 AZ AY AX AW AV AU AT AS AR AQ AP AO AN AM AL AK some
noncomputable def culetref04_Zero.pre:Bool:=(culetref04_Zero.o A3 A2 A6 A5 A4 A9 A8 A7 AB AA B5 B4 B3 B2 AZ AY AX AW AV AU AT AS AR AQ AP AO AN AM AL AK).isSome
noncomputable def culetref04_Zero:Bool:=(culetref04_Zero.o A3 A2 A6 A5 A4 A9 A8 A7 AB AA B5 B4 B3 B2 AZ AY AX AW AV AU AT AS AR AQ AP AO AN AM AL AK).getD default
theorem culetref04_Zero.nat (k:(Bool)→Option R):culetref04_Zero.K EM EK A3 A2 A6 A5 A4 A9 A8 A7 AB AA B5 B4 B3 B2 AZ AY AX AW AV AU AT AS AR AQ AP AO AN AM AL AK k=(culetref04_Zero.K EM EK A3 A2 A6 A5 A4 A9 A8 A7 AB AA B5 B4 B3 B2 AZ AY AX AW AV AU AT AS AR AQ AP AO AN AM AL AK some).bind k:=by
 simp only [culetref04_Zero.K,bcond,Option.bind_some,Option.bind_none]
end
theorem nul_of0 {w:Q} (ow:w.ok=true):(w.c0==0&&(w.c1==0&&(w.c2==0&&w.c3==0))&&w.d==1)=w.nul:=by
 cases hn:w.nul with
 |true=>rw [nul_d ow hn]; rfl
 | false=>
  have:(w.c0==0&&(w.c1==0&&(w.c2==0&&w.c3==0)))=w.nul:=by unfold Q.nul; simp only [Bool.and_assoc]
  rw [this,hn]; rfl
theorem culetref04_Zero.os {x y z:Q} (ox:x.ok=true) (oy:y.ok=true) (oz:z.ok=true):culetref04_Zero.o (dI x.c0).1 (dI x.c0).2 (dI x.c1).1 (dI x.c1).2 (dI x.c2).1 (dI x.c2).2 (dI x.c3).1 (dI x.c3).2 (dI x.d).1 (dI x.d).2 (dI y.c0).1 (dI y.c0).2 (dI y.c1).1 (dI y.c1).2 (dI y.c2).1 (dI y.c2).2 (dI y.c3).1 (dI y.c3).2 (dI y.d).1 (dI y.d).2 (dI z.c0).1 (dI z.c0).2 (dI z.c1).1 (dI z.c1).2 (dI z.c2).1 (dI z.c2).2 (dI z.c3).1 (dI z.c3).2 (dI z.d).1 (dI z.d).2=some (x.nul&&(y.nul&&z.nul)):=by
 have z0:(qof 0).c0=0∧(qof 0).c1=0∧(qof 0).c2=0∧(qof 0).c3=0∧(qof 0).d=1:=⟨rfl,rfl,rfl,rfl,rfl⟩
 simp only [culetref04_Zero.o,culetref04_Zero.K,culetref04_Of.ps,culetref04_Of.es,cond_true,eq_dI,z0.1,z0.2.1,z0.2.2.1,z0.2.2.2.1,z0.2.2.2.2]
 rw [←nul_of0 ox,←nul_of0 oy,←nul_of0 oz]
theorem culetref04_Zero.ps {x y z:Q} (ox:x.ok=true) (oy:y.ok=true) (oz:z.ok=true):culetref04_Zero.pre (dI x.c0).1 (dI x.c0).2 (dI x.c1).1 (dI x.c1).2 (dI x.c2).1 (dI x.c2).2 (dI x.c3).1 (dI x.c3).2 (dI x.d).1 (dI x.d).2 (dI y.c0).1 (dI y.c0).2 (dI y.c1).1 (dI y.c1).2 (dI y.c2).1 (dI y.c2).2 (dI y.c3).1 (dI y.c3).2 (dI y.d).1 (dI y.d).2 (dI z.c0).1 (dI z.c0).2 (dI z.c1).1 (dI z.c1).2 (dI z.c2).1 (dI z.c2).2 (dI z.c3).1 (dI z.c3).2 (dI z.d).1 (dI z.d).2=true:=isSome_of (culetref04_Zero.os ox oy oz)
theorem culetref04_Zero.es {x y z:Q} (ox:x.ok=true) (oy:y.ok=true) (oz:z.ok=true):culetref04_Zero (dI x.c0).1 (dI x.c0).2 (dI x.c1).1 (dI x.c1).2 (dI x.c2).1 (dI x.c2).2 (dI x.c3).1 (dI x.c3).2 (dI x.d).1 (dI x.d).2 (dI y.c0).1 (dI y.c0).2 (dI y.c1).1 (dI y.c1).2 (dI y.c2).1 (dI y.c2).2 (dI y.c3).1 (dI y.c3).2 (dI y.d).1 (dI y.d).2 (dI z.c0).1 (dI z.c0).2 (dI z.c1).1 (dI z.c1).2 (dI z.c2).1 (dI z.c2).2 (dI z.c3).1 (dI z.c3).2 (dI z.d).1 (dI z.d).2=(x.nul&&(y.nul&&z.nul)):=getD_of (culetref04_Zero.os ox oy oz)
theorem culetref04_Zero.ok:SOK Tryz.prog 51 (culetref04_Zero.sp culetref04_Zero culetref04_Zero.pre):=by
 refine sok_of (E:=⟨[(97,culetref04_Of.sp culetref04_Of culetref04_Of.pre)],[],[]⟩) (L:=[]) ⟨(specs_cons culetref04_Of.ok specs_nil),inl_nil,mixed_ok,lps_nil⟩ 60 Tryz.func51 (by decide) rfl no_loops fun vs bl v bl' h=> ?_
 unfold culetref04_Zero.sp at h
 split at h
 ·rename_i A3 A2 A6 A5 A4 A9 A8 A7 AB AA B5 B4 B3 B2 AZ AY AX AW AV AU AT AS AR AQ AP AO AN AM AL AK
  simp only [Option.some.injEq,Prod.mk.injEq] at h
  obtain ⟨hp,rfl,rfl⟩:=h
  have hr:=culetref04_Zero.run culetref04_Of culetref04_Of.pre A3 A2 A6 A5 A4 A9 A8 A7 AB AA B5 B4 B3 B2 AZ AY AX AW AV AU AT AS AR AQ AP AO AN AM AL AK
  rw [culetref04_Zero.nat] at hr
  obtain ⟨r,h2⟩:=Option.isSome_iff_exists.1 (hp:(culetref04_Zero.o A3 A2 A6 A5 A4 A9 A8 A7 AB AA B5 B4 B3 B2 AZ AY AX AW AV AU AT AS AR AQ AP AO AN AM AL AK).isSome=true)
  have h3:culetref04_Zero A3 A2 A6 A5 A4 A9 A8 A7 AB AA B5 B4 B3 B2 AZ AY AX AW AV AU AT AS AR AQ AP AO AN AM AL AK=r:=by unfold culetref04_Zero; rw [h2]; rfl
  have h4:culetref04_Zero.K culetref04_Of culetref04_Of.pre A3 A2 A6 A5 A4 A9 A8 A7 AB AA B5 B4 B3 B2 AZ AY AX AW AV AU AT AS AR AQ AP AO AN AM AL AK some=some r:=h2
  rw [h4,Option.bind_some] at hr
  rw [h3]
  exact ⟨hr,by simp [okV,Nat.blt],clo_spec 8 _ (by kernel_rfl),told_blk (by kernel_rfl)⟩
 ·cases h
section
variable {R:Type} (BU:TF15 (Bool)) (BS:TF15 Bool) (EE:TF15 (Bool)) (ED:TF15 Bool) (B9:TF5 (Bool)) (B8:TF5 Bool) (A3:Bool) (A2:ByteArray) (A6:Bool) (A5:ByteArray) (A4:Bool) (A9:ByteArray) (A8:Bool) (A7:ByteArray) (AB:Bool) (AA:ByteArray) (B5:Bool) (B4:ByteArray) (B3:Bool) (B2:ByteArray) (AZ:Bool) (AY:ByteArray) (AX:Bool) (AW:ByteArray) (AV:Bool) (AU:ByteArray) (AT:Bool) (AS:ByteArray) (AR:Bool) (AQ:ByteArray) (AP:Bool) (AO:ByteArray) (AN:Bool) (AM:ByteArray) (AL:Bool) (AK:ByteArray) (BJ:Bool) (BI:ByteArray) (BH:Bool) (BG:ByteArray) (BF:Bool) (BE:ByteArray) (BD:Bool) (BC:ByteArray) (BB:Bool) (BA:ByteArray)
noncomputable def culetref05_Valid.K (k:(Bool)→Option R):Option R:=
 let t0:=BS A3 A2 A6 A5 A4 A9 A8 A7 AB AA B5 B4 B3 B2 AZ AY AX AW AV AU AT AS AR AQ AP AO AN AM AL AK
 bif t0 then
 let t1:=BU A3 A2 A6 A5 A4 A9 A8 A7 AB AA B5 B4 B3 B2 AZ AY AX AW AV AU AT AS AR AQ AP AO AN AM AL AK
 bif t1 then
 let t2:=ED A3 A2 A6 A5 A4 A9 A8 A7 AB AA B5 B4 B3 B2 AZ AY AX AW AV AU AT AS AR AQ AP AO AN AM AL AK
 bif t2 then
 let t3:=EE A3 A2 A6 A5 A4 A9 A8 A7 AB AA B5 B4 B3 B2 AZ AY AX AW AV AU AT AS AR AQ AP AO AN AM AL AK
 bif !t3 then
 let t4:=B8 BJ BI BH BG BF BE BD BC BB BA
 bif t4 then
 let t5:=B9 BJ BI BH BG BF BE BD BC BB BA
 k (t5) else none else k (false) else none else k (false) else none
theorem culetref05_Valid.run:xfn Tryz.prog ⟨[(42,culetref04_Valid.sp BU BS),(51,culetref04_Zero.sp EE ED),(52,culetref02_Valid.sp B9 B8)],[],[]⟩ [] 60 Tryz.f12 [.agg ⟨.bool A3:: .string A2:: .bool A6:: .string A5:: .bool A4:: .string A9:: .bool A8:: .string A7:: .bool AB:: .string AA:: .bool B5:: .string B4:: .bool B3:: .string B2:: .bool AZ:: .string AY:: .bool AX:: .string AW:: .bool AV:: .string AU:: .bool AT:: .string AS:: .bool AR:: .string AQ:: .bool AP:: .string AO:: .bool AN:: .string AM:: .bool AL:: .string AK:: .bool BJ:: .string BI:: .bool BH:: .string BG:: .bool BF:: .string BE:: .bool BD:: .string BC:: .bool BB:: .string BA::[]⟩] []=culetref05_Valid.K BU BS EE ED B9 B8 A3 A2 A6 A5 A4 A9 A8 A7 AB AA B5 B4 B3 B2 AZ AY AX AW AV AU AT AS AR AQ AP AO AN AM AL AK BJ BI BH BG BF BE BD BC BB BA (fun r=>some (.bool r,[])):=by kernel_rfl
noncomputable def culetref05_Valid.o:Option (Bool):=culetref05_Valid.K culetref04_Valid culetref04_Valid.pre culetref04_Zero culetref04_Zero.pre culetref02_Valid culetref02_Valid.pre A3 A2 A6 A5 A4 A9 A8 A7 AB AA B5 B4 B3 B2 AZ AY AX AW AV AU AT AS AR AQ AP AO AN AM AL AK BJ BI BH BG BF BE BD BC BB BA some
noncomputable def culetref05_Valid.pre:Bool:=(culetref05_Valid.o A3 A2 A6 A5 A4 A9 A8 A7 AB AA B5 B4 B3 B2 AZ AY AX AW AV AU AT AS AR AQ AP AO AN AM AL AK BJ BI BH BG BF BE BD BC BB BA).isSome
noncomputable def culetref05_Valid:Bool:=(culetref05_Valid.o A3 A2 A6 A5 A4 A9 A8 A7 AB AA B5 B4 B3 B2 AZ AY AX AW AV AU AT AS AR AQ AP AO AN AM AL AK BJ BI BH BG BF BE BD BC BB BA).getD default
theorem culetref05_Valid.nat (k:(Bool)→Option R):culetref05_Valid.K BU BS EE ED B9 B8 A3 A2 A6 A5 A4 A9 A8 A7 AB AA B5 B4 B3 B2 AZ AY AX AW AV AU AT AS AR AQ AP AO AN AM AL AK BJ BI BH BG BF BE BD BC BB BA k=(culetref05_Valid.K BU BS EE ED B9 B8 A3 A2 A6 A5 A4 A9 A8 A7 AB AA B5 B4 B3 B2 AZ AY AX AW AV AU AT AS AR AQ AP AO AN AM AL AK BJ BI BH BG BF BE BD BC BB BA some).bind k:=by
 simp only [culetref05_Valid.K,bcond,Option.bind_some,Option.bind_none]
theorem culetref05_Valid.os {x y z q:Q} (hx:x.Le 16777215) (hy:y.Le 16777215) (hz:z.Le 16777215) (hq:q.Le 16777215) (ox:x.ok=true) (oy:y.ok=true) (oz:z.ok=true) (oq:q.ok=true):culetref05_Valid.o (dI x.c0).1 (dI x.c0).2 (dI x.c1).1 (dI x.c1).2 (dI x.c2).1 (dI x.c2).2 (dI x.c3).1 (dI x.c3).2 (dI x.d).1 (dI x.d).2 (dI y.c0).1 (dI y.c0).2 (dI y.c1).1 (dI y.c1).2 (dI y.c2).1 (dI y.c2).2 (dI y.c3).1 (dI y.c3).2 (dI y.d).1 (dI y.d).2 (dI z.c0).1 (dI z.c0).2 (dI z.c1).1 (dI z.c1).2 (dI z.c2).1 (dI z.c2).2 (dI z.c3).1 (dI z.c3).2 (dI z.d).1 (dI z.d).2 (dI q.c0).1 (dI q.c0).2 (dI q.c1).1 (dI q.c1).2 (dI q.c2).1 (dI q.c2).2 (dI q.c3).1 (dI q.c3).2 (dI q.d).1 (dI q.d).2=some (!(x.nul&&(y.nul&&z.nul))):=by
 simp only [culetref05_Valid.o,culetref05_Valid.K,culetref04_Valid.ps hx hy hz,culetref04_Valid.es hx hy hz,culetref04_Zero.ps ox oy oz,culetref04_Zero.es ox oy oz,culetref02_Valid.ps hq,culetref02_Valid.es hq,ox,oy,oz,oq,Bool.and_self,cond_true]
 cases (x.nul&&(y.nul&&z.nul))<;>rfl
theorem culetref05_Valid.ps {x y z q:Q} (hx:x.Le 16777215) (hy:y.Le 16777215) (hz:z.Le 16777215) (hq:q.Le 16777215) (ox:x.ok=true) (oy:y.ok=true) (oz:z.ok=true) (oq:q.ok=true):culetref05_Valid.pre (dI x.c0).1 (dI x.c0).2 (dI x.c1).1 (dI x.c1).2 (dI x.c2).1 (dI x.c2).2 (dI x.c3).1 (dI x.c3).2 (dI x.d).1 (dI x.d).2 (dI y.c0).1 (dI y.c0).2 (dI y.c1).1 (dI y.c1).2 (dI y.c2).1 (dI y.c2).2 (dI y.c3).1 (dI y.c3).2 (dI y.d).1 (dI y.d).2 (dI z.c0).1 (dI z.c0).2 (dI z.c1).1 (dI z.c1).2 (dI z.c2).1 (dI z.c2).2 (dI z.c3).1 (dI z.c3).2 (dI z.d).1 (dI z.d).2 (dI q.c0).1 (dI q.c0).2 (dI q.c1).1 (dI q.c1).2 (dI q.c2).1 (dI q.c2).2 (dI q.c3).1 (dI q.c3).2 (dI q.d).1 (dI q.d).2=true:=isSome_of (culetref05_Valid.os hx hy hz hq ox oy oz oq)
theorem culetref05_Valid.es {x y z q:Q} (hx:x.Le 16777215) (hy:y.Le 16777215) (hz:z.Le 16777215) (hq:q.Le 16777215) (ox:x.ok=true) (oy:y.ok=true) (oz:z.ok=true) (oq:q.ok=true):culetref05_Valid (dI x.c0).1 (dI x.c0).2 (dI x.c1).1 (dI x.c1).2 (dI x.c2).1 (dI x.c2).2 (dI x.c3).1 (dI x.c3).2 (dI x.d).1 (dI x.d).2 (dI y.c0).1 (dI y.c0).2 (dI y.c1).1 (dI y.c1).2 (dI y.c2).1 (dI y.c2).2 (dI y.c3).1 (dI y.c3).2 (dI y.d).1 (dI y.d).2 (dI z.c0).1 (dI z.c0).2 (dI z.c1).1 (dI z.c1).2 (dI z.c2).1 (dI z.c2).2 (dI z.c3).1 (dI z.c3).2 (dI z.d).1 (dI z.d).2 (dI q.c0).1 (dI q.c0).2 (dI q.c1).1 (dI q.c1).2 (dI q.c2).1 (dI q.c2).2 (dI q.c3).1 (dI q.c3).2 (dI q.d).1 (dI q.d).2=(!(x.nul&&(y.nul&&z.nul))):=getD_of (culetref05_Valid.os hx hy hz hq ox oy oz oq)
end
theorem culetref05_Valid.ok:SOK Tryz.prog 12 (culetref05_Valid.sp culetref05_Valid culetref05_Valid.pre):=by
 refine sok_of (E:=⟨[(42,culetref04_Valid.sp culetref04_Valid culetref04_Valid.pre),(51,culetref04_Zero.sp culetref04_Zero culetref04_Zero.pre),(52,culetref02_Valid.sp culetref02_Valid culetref02_Valid.pre)],[],[]⟩) (L:=[]) ⟨(specs_cons culetref04_Valid.ok (specs_cons culetref04_Zero.ok (specs_cons culetref02_Valid.ok specs_nil))),inl_nil,mixed_ok,lps_nil⟩ 60 Tryz.func12 (by decide) rfl no_loops fun vs bl v bl' h=> ?_
 unfold culetref05_Valid.sp at h
 split at h
 ·rename_i A3 A2 A6 A5 A4 A9 A8 A7 AB AA B5 B4 B3 B2 AZ AY AX AW AV AU AT AS AR AQ AP AO AN AM AL AK BJ BI BH BG BF BE BD BC BB BA
  simp only [Option.some.injEq,Prod.mk.injEq] at h
  obtain ⟨hp,rfl,rfl⟩:=h
  have hr:=culetref05_Valid.run culetref04_Valid culetref04_Valid.pre culetref04_Zero culetref04_Zero.pre culetref02_Valid culetref02_Valid.pre A3 A2 A6 A5 A4 A9 A8 A7 AB AA B5 B4 B3 B2 AZ AY AX AW AV AU AT AS AR AQ AP AO AN AM AL AK BJ BI BH BG BF BE BD BC BB BA
  rw [culetref05_Valid.nat] at hr
  obtain ⟨r,h2⟩:=Option.isSome_iff_exists.1 (hp:(culetref05_Valid.o A3 A2 A6 A5 A4 A9 A8 A7 AB AA B5 B4 B3 B2 AZ AY AX AW AV AU AT AS AR AQ AP AO AN AM AL AK BJ BI BH BG BF BE BD BC BB BA).isSome=true)
  have h3:culetref05_Valid A3 A2 A6 A5 A4 A9 A8 A7 AB AA B5 B4 B3 B2 AZ AY AX AW AV AU AT AS AR AQ AP AO AN AM AL AK BJ BI BH BG BF BE BD BC BB BA=r:=by unfold culetref05_Valid; rw [h2]; rfl
  have h4:culetref05_Valid.K culetref04_Valid culetref04_Valid.pre culetref04_Zero culetref04_Zero.pre culetref02_Valid culetref02_Valid.pre A3 A2 A6 A5 A4 A9 A8 A7 AB AA B5 B4 B3 B2 AZ AY AX AW AV AU AT AS AR AQ AP AO AN AM AL AK BJ BI BH BG BF BE BD BC BB BA some=some r:=h2
  rw [h4,Option.bind_some] at hr
  rw [h3]
  exact ⟨hr,by simp [okV,Nat.blt],clo_spec 8 _ (by kernel_rfl),told_blk (by kernel_rfl)⟩
 ·cases h
section
variable {R:Type} (B9:TF5 (Bool)) (B8:TF5 Bool) (DZ:Bool→ByteArray→(Bool×ByteArray)) (A3:Bool) (A2:ByteArray) (A6:Bool) (A5:ByteArray) (A4:Bool) (A9:ByteArray) (A8:Bool) (A7:ByteArray) (AB:Bool) (AA:ByteArray)
noncomputable def culetref02_Neg.K (k:TY5→Option R):Option R:=
 let t0:=B8 A3 A2 A6 A5 A4 A9 A8 A7 AB AA
 bif t0 then
 let t1:=B9 A3 A2 A6 A5 A4 A9 A8 A7 AB AA
 bif !t1 then k (false,{data:= #[]},false,{data:= #[]},false,{data:= #[]},false,{data:= #[]},false,{data:= #[]}) else
 let t2:=DZ A3 A2
 let t3:=DZ A6 A5
 let t4:=DZ A4 A9
 let t5:=DZ A8 A7
 k (t2.1,t2.2,t3.1,t3.2,t4.1,t4.2,t5.1,t5.2,AB,AA) else none
theorem culetref02_Neg.run:xfn Tryz.prog ⟨[(52,culetref02_Valid.sp B9 B8),(59,culetref01_Neg.sp DZ)],[],[]⟩ [] 60 Tryz.f17 [.agg ⟨[.bool A3,.string A2,.bool A6,.string A5,.bool A4,.string A9,.bool A8,.string A7,.bool AB,.string AA]⟩] []=culetref02_Neg.K B9 B8 DZ A3 A2 A6 A5 A4 A9 A8 A7 AB AA (fun r=>some (.agg ⟨[.bool r.1,.string r.2.1,.bool r.2.2.1,.string r.2.2.2.1,.bool r.2.2.2.2.1,.string r.2.2.2.2.2.1,.bool r.2.2.2.2.2.2.1,.string r.2.2.2.2.2.2.2.1,.bool r.2.2.2.2.2.2.2.2.1,.string r.2.2.2.2.2.2.2.2.2]⟩,[])):=by kernel_rfl
noncomputable def culetref02_Neg.o:Option (TY5):=culetref02_Neg.K culetref02_Valid culetref02_Valid.pre culetref01_Neg A3 A2 A6 A5 A4 A9 A8 A7 AB AA some
noncomputable def culetref02_Neg.pre:Bool:=(culetref02_Neg.o A3 A2 A6 A5 A4 A9 A8 A7 AB AA).isSome
noncomputable def culetref02_Neg:TY5:=(culetref02_Neg.o A3 A2 A6 A5 A4 A9 A8 A7 AB AA).getD default
theorem culetref02_Neg.nat (k:TY5→Option R):culetref02_Neg.K B9 B8 DZ A3 A2 A6 A5 A4 A9 A8 A7 AB AA k=(culetref02_Neg.K B9 B8 DZ A3 A2 A6 A5 A4 A9 A8 A7 AB AA some).bind k:=by
 simp only [culetref02_Neg.K,bcond,Option.bind_some,Option.bind_none]
end
theorem r_Neg_dI (a:Int):culetref01_Neg (dI a).1 (dI a).2=dI (-a):=by simp [culetref01_Neg]
theorem culetref02_Neg.os {x:Q} (h:x.Le 16777215) (ox:x.ok=true):culetref02_Neg.o (dI x.c0).1 (dI x.c0).2 (dI x.c1).1 (dI x.c1).2 (dI x.c2).1 (dI x.c2).2 (dI x.c3).1 (dI x.c3).2 (dI x.d).1 (dI x.d).2=some (C5 (qneg x)):=by
 simp only [culetref02_Neg.o,culetref02_Neg.K,culetref02_Valid.ps h,culetref02_Valid.es h,ox,r_Neg_dI,cond_true,Bool.not_true,cond_false]
 rfl
theorem culetref02_Neg.ps {x:Q} (h:x.Le 16777215) (ox:x.ok=true):culetref02_Neg.pre (dI x.c0).1 (dI x.c0).2 (dI x.c1).1 (dI x.c1).2 (dI x.c2).1 (dI x.c2).2 (dI x.c3).1 (dI x.c3).2 (dI x.d).1 (dI x.d).2=true:=isSome_of (culetref02_Neg.os h ox)
theorem culetref02_Neg.es {x:Q} (h:x.Le 16777215) (ox:x.ok=true):culetref02_Neg (dI x.c0).1 (dI x.c0).2 (dI x.c1).1 (dI x.c1).2 (dI x.c2).1 (dI x.c2).2 (dI x.c3).1 (dI x.c3).2 (dI x.d).1 (dI x.d).2=C5 (qneg x):=getD_of (culetref02_Neg.os h ox)
theorem culetref02_Neg.ok:SOK Tryz.prog 17 (culetref02_Neg.sp culetref02_Neg culetref02_Neg.pre):=by
 refine sok_of (E:=⟨[(52,culetref02_Valid.sp culetref02_Valid culetref02_Valid.pre),(59,culetref01_Neg.sp culetref01_Neg)],[],[]⟩) (L:=[]) ⟨(specs_cons culetref02_Valid.ok (specs_cons culetref01_Neg.ok specs_nil)),inl_nil,mixed_ok,lps_nil⟩ 60 Tryz.func17 (by decide) rfl no_loops fun vs bl v bl' h=> ?_
 unfold culetref02_Neg.sp at h
 split at h
 ·rename_i A3 A2 A6 A5 A4 A9 A8 A7 AB AA
  simp only [Option.some.injEq,Prod.mk.injEq] at h
  obtain ⟨hp,rfl,rfl⟩:=h
  have hr:=culetref02_Neg.run culetref02_Valid culetref02_Valid.pre culetref01_Neg A3 A2 A6 A5 A4 A9 A8 A7 AB AA
  rw [culetref02_Neg.nat] at hr
  obtain ⟨r,h2⟩:=Option.isSome_iff_exists.1 (hp:(culetref02_Neg.o A3 A2 A6 A5 A4 A9 A8 A7 AB AA).isSome=true)
  have h3:culetref02_Neg A3 A2 A6 A5 A4 A9 A8 A7 AB AA=r:=by unfold culetref02_Neg; rw [h2]; rfl
  have h4:culetref02_Neg.K culetref02_Valid culetref02_Valid.pre culetref01_Neg A3 A2 A6 A5 A4 A9 A8 A7 AB AA some=some r:=h2
  rw [h4,Option.bind_some] at hr
  rw [h3]
  exact ⟨hr,by simp [okV,Nat.blt],clo_spec 8 _ (by kernel_rfl),told_blk (by kernel_rfl)⟩
 ·cases h
section
variable {R:Type} (CA:TF5 (TY5)) (C8:TF5 Bool) (BU:TF15 (Bool)) (BS:TF15 Bool) (A3:Bool) (A2:ByteArray) (A6:Bool) (A5:ByteArray) (A4:Bool) (A9:ByteArray) (A8:Bool) (A7:ByteArray) (AB:Bool) (AA:ByteArray) (B5:Bool) (B4:ByteArray) (B3:Bool) (B2:ByteArray) (AZ:Bool) (AY:ByteArray) (AX:Bool) (AW:ByteArray) (AV:Bool) (AU:ByteArray) (AT:Bool) (AS:ByteArray) (AR:Bool) (AQ:ByteArray) (AP:Bool) (AO:ByteArray) (AN:Bool) (AM:ByteArray) (AL:Bool) (AK:ByteArray)
noncomputable def culetref04_Neg.K (k:TY15→Option R):Option R:=
 let t0:=BS A3 A2 A6 A5 A4 A9 A8 A7 AB AA B5 B4 B3 B2 AZ AY AX AW AV AU AT AS AR AQ AP AO AN AM AL AK
 bif t0 then
 let t1:=BU A3 A2 A6 A5 A4 A9 A8 A7 AB AA B5 B4 B3 B2 AZ AY AX AW AV AU AT AS AR AQ AP AO AN AM AL AK
 bif !t1 then k (false,{data:= #[]},false,{data:= #[]},false,{data:= #[]},false,{data:= #[]},false,{data:= #[]},false,{data:= #[]},false,{data:= #[]},false,{data:= #[]},false,{data:= #[]},false,{data:= #[]},false,{data:= #[]},false,{data:= #[]},false,{data:= #[]},false,{data:= #[]},false,{data:= #[]}) else
 let t2:=C8 A3 A2 A6 A5 A4 A9 A8 A7 AB AA
 bif t2 then
 let t3:=C8 B5 B4 B3 B2 AZ AY AX AW AV AU
 bif t3 then
 let t4:=C8 AT AS AR AQ AP AO AN AM AL AK
 bif t4 then
 let t5:=CA A3 A2 A6 A5 A4 A9 A8 A7 AB AA
 let t6:=CA B5 B4 B3 B2 AZ AY AX AW AV AU
 let t7:=CA AT AS AR AQ AP AO AN AM AL AK
 k (t5.1,t5.2.1,t5.2.2.1,t5.2.2.2.1,t5.2.2.2.2.1,t5.2.2.2.2.2.1,t5.2.2.2.2.2.2.1,t5.2.2.2.2.2.2.2.1,t5.2.2.2.2.2.2.2.2.1,t5.2.2.2.2.2.2.2.2.2,t6.1,t6.2.1,t6.2.2.1,t6.2.2.2.1,t6.2.2.2.2.1,t6.2.2.2.2.2.1,t6.2.2.2.2.2.2.1,t6.2.2.2.2.2.2.2.1,t6.2.2.2.2.2.2.2.2.1,t6.2.2.2.2.2.2.2.2.2,t7.1,t7.2.1,t7.2.2.1,t7.2.2.2.1,t7.2.2.2.2.1,t7.2.2.2.2.2.1,t7.2.2.2.2.2.2.1,t7.2.2.2.2.2.2.2.1,t7.2.2.2.2.2.2.2.2.1,t7.2.2.2.2.2.2.2.2.2) else none else none else none else none
theorem culetref04_Neg.run:xfn Tryz.prog ⟨[(17,culetref02_Neg.sp CA C8),(42,culetref04_Valid.sp BU BS)],[],[]⟩ [] 60 Tryz.f16 [.agg ⟨[.bool A3,.string A2,.bool A6,.string A5,.bool A4,.string A9,.bool A8,.string A7,.bool AB,.string AA,.bool B5,.string B4,.bool B3,.string B2,.bool AZ,.string AY,.bool AX,.string AW,.bool AV,.string AU,.bool AT,.string AS,.bool AR,.string AQ,.bool AP,.string AO,.bool AN,.string AM,.bool AL,.string AK]⟩] []=culetref04_Neg.K CA C8 BU BS A3 A2 A6 A5 A4 A9 A8 A7 AB AA B5 B4 B3 B2 AZ AY AX AW AV AU AT AS AR AQ AP AO AN AM AL AK (fun r=>some (.agg ⟨[.bool r.1,.string r.2.1,.bool r.2.2.1,.string r.2.2.2.1,.bool r.2.2.2.2.1,.string r.2.2.2.2.2.1,.bool r.2.2.2.2.2.2.1,.string r.2.2.2.2.2.2.2.1,.bool r.2.2.2.2.2.2.2.2.1,.string r.2.2.2.2.2.2.2.2.2.1,.bool r.2.2.2.2.2.2.2.2.2.2.1,.string r.2.2.2.2.2.2.2.2.2.2.2.1,.bool r.2.2.2.2.2.2.2.2.2.2.2.2.1,.string r.2.2.2.2.2.2.2.2.2.2.2.2.2.1,.bool r.2.2.2.2.2.2.2.2.2.2.2.2.2.2.1,.string r.2.2.2.2.2.2.2.2.2.2.2.2.2.2.2.1,.bool r.2.2.2.2.2.2.2.2.2.2.2.2.2.2.2.2.1,.string r.2.2.2.2.2.2.2.2.2.2.2.2.2.2.2.2.2.1,.bool r.2.2.2.2.2.2.2.2.2.2.2.2.2.2.2.2.2.2.1,.string r.2.2.2.2.2.2.2.2.2.2.2.2.2.2.2.2.2.2.2.1,.bool r.2.2.2.2.2.2.2.2.2.2.2.2.2.2.2.2.2.2.2.2.1,.string r.2.2.2.2.2.2.2.2.2.2.2.2.2.2.2.2.2.2.2.2.2.1,.bool r.2.2.2.2.2.2.2.2.2.2.2.2.2.2.2.2.2.2.2.2.2.2.1,.string r.2.2.2.2.2.2.2.2.2.2.2.2.2.2.2.2.2.2.2.2.2.2.2.1,.bool r.2.2.2.2.2.2.2.2.2.2.2.2.2.2.2.2.2.2.2.2.2.2.2.2.1,.string r.2.2.2.2.2.2.2.2.2.2.2.2.2.2.2.2.2.2.2.2.2.2.2.2.2.1,.bool r.2.2.2.2.2.2.2.2.2.2.2.2.2.2.2.2.2.2.2.2.2.2.2.2.2.2.1,.string r.2.2.2.2.2.2.2.2.2.2.2.2.2.2.2.2.2.2.2.2.2.2.2.2.2.2.2.1,.bool r.2.2.2.2.2.2.2.2.2.2.2.2.2.2.2.2.2.2.2.2.2.2.2.2.2.2.2.2.1,.string r.2.2.2.2.2.2.2.2.2.2.2.2.2.2.2.2.2.2.2.2.2.2.2.2.2.2.2.2.2]⟩,[])):=by kernel_rfl
noncomputable def culetref04_Neg.o:Option (TY15):=culetref04_Neg.K culetref02_Neg culetref02_Neg.pre culetref04_Valid culetref04_Valid.pre A3 A2 A6 A5 A4 A9 A8 A7 AB AA B5 B4 B3 B2 AZ AY AX AW AV AU AT AS AR AQ AP AO AN AM AL AK some
noncomputable def culetref04_Neg.pre:Bool:=(culetref04_Neg.o A3 A2 A6 A5 A4 A9 A8 A7 AB AA B5 B4 B3 B2 AZ AY AX AW AV AU AT AS AR AQ AP AO AN AM AL AK).isSome
noncomputable def culetref04_Neg:TY15:=(culetref04_Neg.o A3 A2 A6 A5 A4 A9 A8 A7 AB AA B5 B4 B3 B2 AZ AY AX AW AV AU AT AS AR AQ AP AO AN AM AL AK).getD default
theorem culetref04_Neg.nat (k:TY15→Option R):culetref04_Neg.K CA C8 BU BS A3 A2 A6 A5 A4 A9 A8 A7 AB AA B5 B4 B3 B2 AZ AY AX AW AV AU AT AS AR AQ AP AO AN AM AL AK k=(culetref04_Neg.K CA C8 BU BS A3 A2 A6 A5 A4 A9 A8 A7 AB AA B5 B4 B3 B2 AZ AY AX AW AV AU AT AS AR AQ AP AO AN AM AL AK some).bind k:=by
 simp only [culetref04_Neg.K,bcond,Option.bind_some,Option.bind_none]
theorem culetref04_Neg.os {x y z:Q} (hx:x.Le 16777215) (hy:y.Le 16777215) (hz:z.Le 16777215) (ox:x.ok=true) (oy:y.ok=true) (oz:z.ok=true):culetref04_Neg.o (dI x.c0).1 (dI x.c0).2 (dI x.c1).1 (dI x.c1).2 (dI x.c2).1 (dI x.c2).2 (dI x.c3).1 (dI x.c3).2 (dI x.d).1 (dI x.d).2 (dI y.c0).1 (dI y.c0).2 (dI y.c1).1 (dI y.c1).2 (dI y.c2).1 (dI y.c2).2 (dI y.c3).1 (dI y.c3).2 (dI y.d).1 (dI y.d).2 (dI z.c0).1 (dI z.c0).2 (dI z.c1).1 (dI z.c1).2 (dI z.c2).1 (dI z.c2).2 (dI z.c3).1 (dI z.c3).2 (dI z.d).1 (dI z.d).2=some ((dI (qneg x).c0).1,(dI (qneg x).c0).2,(dI (qneg x).c1).1,(dI (qneg x).c1).2,(dI (qneg x).c2).1,(dI (qneg x).c2).2,(dI (qneg x).c3).1,(dI (qneg x).c3).2,(dI (qneg x).d).1,(dI (qneg x).d).2,(dI (qneg y).c0).1,(dI (qneg y).c0).2,(dI (qneg y).c1).1,(dI (qneg y).c1).2,(dI (qneg y).c2).1,(dI (qneg y).c2).2,(dI (qneg y).c3).1,(dI (qneg y).c3).2,(dI (qneg y).d).1,(dI (qneg y).d).2,(dI (qneg z).c0).1,(dI (qneg z).c0).2,(dI (qneg z).c1).1,(dI (qneg z).c1).2,(dI (qneg z).c2).1,(dI (qneg z).c2).2,(dI (qneg z).c3).1,(dI (qneg z).c3).2,(dI (qneg z).d).1,(dI (qneg z).d).2):=by
 simp only [culetref04_Neg.o,culetref04_Neg.K,culetref04_Valid.ps hx hy hz,culetref04_Valid.es hx hy hz,ox,oy,oz,culetref02_Neg.ps hx ox,culetref02_Neg.ps hy oy,culetref02_Neg.ps hz oz,culetref02_Neg.es hx ox,culetref02_Neg.es hy oy,culetref02_Neg.es hz oz,Bool.and_self,cond_true,Bool.not_true,cond_false]
 rfl
theorem culetref04_Neg.ps {x y z:Q} (hx:x.Le 16777215) (hy:y.Le 16777215) (hz:z.Le 16777215) (ox:x.ok=true) (oy:y.ok=true) (oz:z.ok=true):culetref04_Neg.pre (dI x.c0).1 (dI x.c0).2 (dI x.c1).1 (dI x.c1).2 (dI x.c2).1 (dI x.c2).2 (dI x.c3).1 (dI x.c3).2 (dI x.d).1 (dI x.d).2 (dI y.c0).1 (dI y.c0).2 (dI y.c1).1 (dI y.c1).2 (dI y.c2).1 (dI y.c2).2 (dI y.c3).1 (dI y.c3).2 (dI y.d).1 (dI y.d).2 (dI z.c0).1 (dI z.c0).2 (dI z.c1).1 (dI z.c1).2 (dI z.c2).1 (dI z.c2).2 (dI z.c3).1 (dI z.c3).2 (dI z.d).1 (dI z.d).2=true:=isSome_of (culetref04_Neg.os hx hy hz ox oy oz)
theorem culetref04_Neg.es {x y z:Q} (hx:x.Le 16777215) (hy:y.Le 16777215) (hz:z.Le 16777215) (ox:x.ok=true) (oy:y.ok=true) (oz:z.ok=true):culetref04_Neg (dI x.c0).1 (dI x.c0).2 (dI x.c1).1 (dI x.c1).2 (dI x.c2).1 (dI x.c2).2 (dI x.c3).1 (dI x.c3).2 (dI x.d).1 (dI x.d).2 (dI y.c0).1 (dI y.c0).2 (dI y.c1).1 (dI y.c1).2 (dI y.c2).1 (dI y.c2).2 (dI y.c3).1 (dI y.c3).2 (dI y.d).1 (dI y.d).2 (dI z.c0).1 (dI z.c0).2 (dI z.c1).1 (dI z.c1).2 (dI z.c2).1 (dI z.c2).2 (dI z.c3).1 (dI z.c3).2 (dI z.d).1 (dI z.d).2=((dI (qneg x).c0).1,(dI (qneg x).c0).2,(dI (qneg x).c1).1,(dI (qneg x).c1).2,(dI (qneg x).c2).1,(dI (qneg x).c2).2,(dI (qneg x).c3).1,(dI (qneg x).c3).2,(dI (qneg x).d).1,(dI (qneg x).d).2,(dI (qneg y).c0).1,(dI (qneg y).c0).2,(dI (qneg y).c1).1,(dI (qneg y).c1).2,(dI (qneg y).c2).1,(dI (qneg y).c2).2,(dI (qneg y).c3).1,(dI (qneg y).c3).2,(dI (qneg y).d).1,(dI (qneg y).d).2,(dI (qneg z).c0).1,(dI (qneg z).c0).2,(dI (qneg z).c1).1,(dI (qneg z).c1).2,(dI (qneg z).c2).1,(dI (qneg z).c2).2,(dI (qneg z).c3).1,(dI (qneg z).c3).2,(dI (qneg z).d).1,(dI (qneg z).d).2):=getD_of (culetref04_Neg.os hx hy hz ox oy oz)
end
theorem culetref04_Neg.ok:SOK Tryz.prog 16 (culetref04_Neg.sp culetref04_Neg culetref04_Neg.pre):=by
 refine sok_of (E:=⟨[(17,culetref02_Neg.sp culetref02_Neg culetref02_Neg.pre),(42,culetref04_Valid.sp culetref04_Valid culetref04_Valid.pre)],[],[]⟩) (L:=[]) ⟨(specs_cons culetref02_Neg.ok (specs_cons culetref04_Valid.ok specs_nil)),inl_nil,mixed_ok,lps_nil⟩ 60 Tryz.func16 (by decide) rfl no_loops fun vs bl v bl' h=> ?_
 unfold culetref04_Neg.sp at h
 split at h
 ·rename_i A3 A2 A6 A5 A4 A9 A8 A7 AB AA B5 B4 B3 B2 AZ AY AX AW AV AU AT AS AR AQ AP AO AN AM AL AK
  simp only [Option.some.injEq,Prod.mk.injEq] at h
  obtain ⟨hp,rfl,rfl⟩:=h
  have hr:=culetref04_Neg.run culetref02_Neg culetref02_Neg.pre culetref04_Valid culetref04_Valid.pre A3 A2 A6 A5 A4 A9 A8 A7 AB AA B5 B4 B3 B2 AZ AY AX AW AV AU AT AS AR AQ AP AO AN AM AL AK
  rw [culetref04_Neg.nat] at hr
  obtain ⟨r,h2⟩:=Option.isSome_iff_exists.1 (hp:(culetref04_Neg.o A3 A2 A6 A5 A4 A9 A8 A7 AB AA B5 B4 B3 B2 AZ AY AX AW AV AU AT AS AR AQ AP AO AN AM AL AK).isSome=true)
  have h3:culetref04_Neg A3 A2 A6 A5 A4 A9 A8 A7 AB AA B5 B4 B3 B2 AZ AY AX AW AV AU AT AS AR AQ AP AO AN AM AL AK=r:=by unfold culetref04_Neg; rw [h2]; rfl
  have h4:culetref04_Neg.K culetref02_Neg culetref02_Neg.pre culetref04_Valid culetref04_Valid.pre A3 A2 A6 A5 A4 A9 A8 A7 AB AA B5 B4 B3 B2 AZ AY AX AW AV AU AT AS AR AQ AP AO AN AM AL AK some=some r:=h2
  rw [h4,Option.bind_some] at hr
  rw [h3]
  exact ⟨hr,by simp [okV,Nat.blt],clo_spec 8 _ (by kernel_rfl),told_blk (by kernel_rfl)⟩
 ·cases h
section
variable {R:Type} (BP:Int→(Bool×ByteArray)) (BO:Int→Bool) (CJ:Int→Int→Int→Int→Int→(Int)) (CH:Int→Int→Int→Int→Int→Bool) (A3:Int) (A2:Int) (A6:Int) (A5:Int) (A4:Int)
noncomputable def culetref02_number.K (k:TY5→Option R):Option R:=
 let t0:=CH A3 A2 A6 A5 A4
 bif t0 then
 let t1:=CJ A3 A2 A6 A5 A4
 bif t1 !=0 then
 let t2:=BO (IntKind.i64.wrap (A3.tdiv t1))
 bif t2 then bif t1 !=0 then
 let t3:=BO (IntKind.i64.wrap (A2.tdiv t1))
 bif t3 then bif t1 !=0 then
 let t4:=BO (IntKind.i64.wrap (A6.tdiv t1))
 bif t4 then bif t1 !=0 then
 let t5:=BO (IntKind.i64.wrap (A5.tdiv t1))
 bif t5 then bif t1 !=0 then
 let t6:=BO (IntKind.i64.wrap (A4.tdiv t1))
 bif t6 then
 let t7:=BP (IntKind.i64.wrap (A3.tdiv t1))
 let t8:=BP (IntKind.i64.wrap (A2.tdiv t1))
 let t9:=BP (IntKind.i64.wrap (A6.tdiv t1))
 let t10:=BP (IntKind.i64.wrap (A5.tdiv t1))
 let t11:=BP (IntKind.i64.wrap (A4.tdiv t1))
 k (t7.1,t7.2,t8.1,t8.2,t9.1,t9.2,t10.1,t10.2,t11.1,t11.2) else none else none else none else none else none else none else none else none else none else none else none
theorem culetref02_number.run:xfn Tryz.prog ⟨[(53,culetref01_Of.sp BP BO),(98,culetref02_gcd.sp CJ CH)],[],[]⟩ [] 60 Tryz.f55 [.agg ⟨[.int .i64 A3,.int .i64 A2,.int .i64 A6,.int .i64 A5,.int .i64 A4]⟩] []=culetref02_number.K BP BO CJ CH A3 A2 A6 A5 A4 (fun r=>some (.agg ⟨[.bool r.1,.string r.2.1,.bool r.2.2.1,.string r.2.2.2.1,.bool r.2.2.2.2.1,.string r.2.2.2.2.2.1,.bool r.2.2.2.2.2.2.1,.string r.2.2.2.2.2.2.2.1,.bool r.2.2.2.2.2.2.2.2.1,.string r.2.2.2.2.2.2.2.2.2]⟩,[])):=by kernel_rfl
noncomputable def culetref02_number.o:Option (TY5):=culetref02_number.K culetref01_Of culetref01_Of.pre culetref02_gcd culetref02_gcd.pre A3 A2 A6 A5 A4 some
noncomputable def culetref02_number.pre:Bool:=(culetref02_number.o A3 A2 A6 A5 A4).isSome
noncomputable def culetref02_number:TY5:=(culetref02_number.o A3 A2 A6 A5 A4).getD default
theorem culetref02_number.nat (k:TY5→Option R):culetref02_number.K BP BO CJ CH A3 A2 A6 A5 A4 k=(culetref02_number.K BP BO CJ CH A3 A2 A6 A5 A4 some).bind k:=by
 simp only [culetref02_number.K,bcond,Option.bind_some,Option.bind_none]
end
theorem tdiv_exact {x g:Int} (h:g∣x):x.tdiv g=x/g:=Int.tdiv_eq_ediv_of_dvd h
theorem div_abs {x g:Int} (h:g∣x) (hg:0<g):(x/g).natAbs≤x.natAbs:=by
 obtain ⟨c,rfl⟩:=h
 rw [Int.mul_ediv_cancel_left _ (by omega),Int.natAbs_mul]
 exact Nat.le_mul_of_pos_left _ (by omega)
theorem low_le {m:Nat} {q:Q} (h:q.Le m) (hd:0<q.d):(low q).Le m:=by
 have hg:0<q.g:=gg_pos (by omega)
 have e:sg_ q=q.g:=by unfold sg_; rw [if_neg (by omega)]
 obtain ⟨d,d0,d1,d2,d3⟩:=sg_dvd q
 have l:low q=⟨q.c0/sg_ q,q.c1/sg_ q,q.c2/sg_ q,q.c3/sg_ q,q.d/sg_ q⟩:=rfl
 rw [l]
 have hs:0<sg_ q:=by omega
 exact ⟨Nat.le_trans (div_abs d0 hs) h.c0,Nat.le_trans (div_abs d1 hs) h.c1,Nat.le_trans (div_abs d2 hs) h.c2,Nat.le_trans (div_abs d3 hs) h.c3,Nat.le_trans (div_abs d hs) h.d⟩
theorem culetref02_number.os {q:Q} (h:q.Le 4611686018427387904) (hd:0<q.d):culetref02_number.o q.c0 q.c1 q.c2 q.c3 q.d=some (C5 (low q)):=by
 have hg:0<q.g:=gg_pos (by omega)
 have e:sg_ q=q.g:=by unfold sg_; rw [if_neg (by omega)]
 obtain ⟨d,d0,d1,d2,d3⟩:=sg_dvd q
 rw [e] at d d0 d1 d2 d3
 have hl:=low_le h hd
 have l:low q=⟨q.c0/q.g,q.c1/q.g,q.c2/q.g,q.c3/q.g,q.d/q.g⟩:=by rw [←e]; rfl
 rw [l] at hl ⊢
 have w:∀ {x:Int},x.natAbs≤4611686018427387904→IntKind.i64.wrap x=x∧culetref01_Of.pre x=true:=fun {x} hx=>⟨w64 (by omega) (by omega),by simp only [culetref01_Of.pre,Bool.and_eq_true,decide_eq_true_eq]; omega⟩
 simp only [culetref02_number.o,culetref02_number.K,r_gcd_pre h,r_gcd_eq,bne_of (show q.g≠0 by omega),cond_true,tdiv_exact d0,tdiv_exact d1,tdiv_exact d2,tdiv_exact d3,tdiv_exact d,(w hl.c0).1,(w hl.c1).1,(w hl.c2).1,(w hl.c3).1,(w hl.d).1,(w hl.c0).2,(w hl.c1).2,(w hl.c2).2,(w hl.c3).2,(w hl.d).2]
 rfl
theorem culetref02_number.ps {q:Q} (h:q.Le 4611686018427387904) (hd:0<q.d):culetref02_number.pre q.c0 q.c1 q.c2 q.c3 q.d=true:=isSome_of (culetref02_number.os h hd)
theorem culetref02_number.es {q:Q} (h:q.Le 4611686018427387904) (hd:0<q.d):culetref02_number q.c0 q.c1 q.c2 q.c3 q.d=C5 (low q):=getD_of (culetref02_number.os h hd)
theorem culetref02_number.ok:SOK Tryz.prog 55 (culetref02_number.sp culetref02_number culetref02_number.pre):=by
 refine sok_of (E:=⟨[(53,culetref01_Of.sp culetref01_Of culetref01_Of.pre),(98,culetref02_gcd.sp culetref02_gcd culetref02_gcd.pre)],[],[]⟩) (L:=[]) ⟨(specs_cons culetref01_Of.ok (specs_cons culetref02_gcd.ok specs_nil)),inl_nil,mixed_ok,lps_nil⟩ 60 Tryz.func55 (by decide) rfl no_loops fun vs bl v bl' h=> ?_
 unfold culetref02_number.sp at h
 split at h
 ·rename_i A3 A2 A6 A5 A4
  simp only [Option.some.injEq,Prod.mk.injEq] at h
  obtain ⟨hp,rfl,rfl⟩:=h
  have hr:=culetref02_number.run culetref01_Of culetref01_Of.pre culetref02_gcd culetref02_gcd.pre A3 A2 A6 A5 A4
  rw [culetref02_number.nat] at hr
  obtain ⟨r,h2⟩:=Option.isSome_iff_exists.1 (hp:(culetref02_number.o A3 A2 A6 A5 A4).isSome=true)
  have h3:culetref02_number A3 A2 A6 A5 A4=r:=by unfold culetref02_number; rw [h2]; rfl
  have h4:culetref02_number.K culetref01_Of culetref01_Of.pre culetref02_gcd culetref02_gcd.pre A3 A2 A6 A5 A4 some=some r:=h2
  rw [h4,Option.bind_some] at hr
  rw [h3]
  exact ⟨hr,by simp [okV,Nat.blt],clo_spec 8 _ (by kernel_rfl),told_blk (by kernel_rfl)⟩
 ·cases h
section
variable {R:Type} (B9:TF5 (Bool)) (B8:TF5 Bool) (C7:TF5 (Int×Int×Int×Int×Int×Bool)) (E4:Int→Int→Int→Int→Int→(TY5)) (E3:Int→Int→Int→Int→Int→Bool) (A3:Bool) (A2:ByteArray) (A6:Bool) (A5:ByteArray) (A4:Bool) (A9:ByteArray) (A8:Bool) (A7:ByteArray) (AB:Bool) (AA:ByteArray) (AD:Bool) (AC:ByteArray) (AH:Bool) (AG:ByteArray) (AJ:Bool) (AI:ByteArray) (B7:Bool) (B6:ByteArray) (AF:Bool) (AE:ByteArray)
noncomputable def culetref02_Mul.K (k:TY5→Option R):Option R:=
 let t0:=B8 A3 A2 A6 A5 A4 A9 A8 A7 AB AA
 bif t0 then
 let t1:=B9 A3 A2 A6 A5 A4 A9 A8 A7 AB AA
 bif !t1 then k (false,{data:= #[]},false,{data:= #[]},false,{data:= #[]},false,{data:= #[]},false,{data:= #[]}) else
 let t2:=B8 AD AC AH AG AJ AI B7 B6 AF AE
 bif t2 then
 let t3:=B9 AD AC AH AG AJ AI B7 B6 AF AE
 bif !t3 then k (false,{data:= #[]},false,{data:= #[]},false,{data:= #[]},false,{data:= #[]},false,{data:= #[]}) else
 let t4:=C7 A3 A2 A6 A5 A4 A9 A8 A7 AB AA
 bif t4.2.2.2.2.2 then
 let t5:=C7 AD AC AH AG AJ AI B7 B6 AF AE
 bif t5.2.2.2.2.2 then
 let t6:=E3 (IntKind.i64.wrap (IntKind.i64.wrap (IntKind.i64.wrap (IntKind.i64.wrap (t4.1*t5.1)+IntKind.i64.wrap (IntKind.i64.wrap (2*t4.2.1)*t5.2.1))+IntKind.i64.wrap (IntKind.i64.wrap (3*t4.2.2.1)*t5.2.2.1))+IntKind.i64.wrap (IntKind.i64.wrap (6*t4.2.2.2.1)*t5.2.2.2.1))) (IntKind.i64.wrap (IntKind.i64.wrap (IntKind.i64.wrap (IntKind.i64.wrap (t4.1*t5.2.1)+IntKind.i64.wrap (t4.2.1*t5.1))+IntKind.i64.wrap (IntKind.i64.wrap (3*t4.2.2.1)*t5.2.2.2.1))+IntKind.i64.wrap (IntKind.i64.wrap (3*t4.2.2.2.1)*t5.2.2.1))) (IntKind.i64.wrap (IntKind.i64.wrap (IntKind.i64.wrap (IntKind.i64.wrap (t4.1*t5.2.2.1)+IntKind.i64.wrap (t4.2.2.1*t5.1))+IntKind.i64.wrap (IntKind.i64.wrap (2*t4.2.1)*t5.2.2.2.1))+IntKind.i64.wrap (IntKind.i64.wrap (2*t4.2.2.2.1)*t5.2.1))) (IntKind.i64.wrap (IntKind.i64.wrap (IntKind.i64.wrap (IntKind.i64.wrap (t4.1*t5.2.2.2.1)+IntKind.i64.wrap (t4.2.2.2.1*t5.1))+IntKind.i64.wrap (t4.2.1*t5.2.2.1))+IntKind.i64.wrap (t4.2.2.1*t5.2.1))) (IntKind.i64.wrap (t4.2.2.2.2.1*t5.2.2.2.2.1))
 bif t6 then
 let t7:=E4 (IntKind.i64.wrap (IntKind.i64.wrap (IntKind.i64.wrap (IntKind.i64.wrap (t4.1*t5.1)+IntKind.i64.wrap (IntKind.i64.wrap (2*t4.2.1)*t5.2.1))+IntKind.i64.wrap (IntKind.i64.wrap (3*t4.2.2.1)*t5.2.2.1))+IntKind.i64.wrap (IntKind.i64.wrap (6*t4.2.2.2.1)*t5.2.2.2.1))) (IntKind.i64.wrap (IntKind.i64.wrap (IntKind.i64.wrap (IntKind.i64.wrap (t4.1*t5.2.1)+IntKind.i64.wrap (t4.2.1*t5.1))+IntKind.i64.wrap (IntKind.i64.wrap (3*t4.2.2.1)*t5.2.2.2.1))+IntKind.i64.wrap (IntKind.i64.wrap (3*t4.2.2.2.1)*t5.2.2.1))) (IntKind.i64.wrap (IntKind.i64.wrap (IntKind.i64.wrap (IntKind.i64.wrap (t4.1*t5.2.2.1)+IntKind.i64.wrap (t4.2.2.1*t5.1))+IntKind.i64.wrap (IntKind.i64.wrap (2*t4.2.1)*t5.2.2.2.1))+IntKind.i64.wrap (IntKind.i64.wrap (2*t4.2.2.2.1)*t5.2.1))) (IntKind.i64.wrap (IntKind.i64.wrap (IntKind.i64.wrap (IntKind.i64.wrap (t4.1*t5.2.2.2.1)+IntKind.i64.wrap (t4.2.2.2.1*t5.1))+IntKind.i64.wrap (t4.2.1*t5.2.2.1))+IntKind.i64.wrap (t4.2.2.1*t5.2.1))) (IntKind.i64.wrap (t4.2.2.2.2.1*t5.2.2.2.2.1))
 k (t7.1,t7.2.1,t7.2.2.1,t7.2.2.2.1,t7.2.2.2.2.1,t7.2.2.2.2.2.1,t7.2.2.2.2.2.2.1,t7.2.2.2.2.2.2.2.1,t7.2.2.2.2.2.2.2.2.1,t7.2.2.2.2.2.2.2.2.2) else none else none else none else none else none
theorem culetref02_Mul.run:xfn Tryz.prog ⟨[(52,culetref02_Valid.sp B9 B8),(54,culetref02_words.sp C7),(55,culetref02_number.sp E4 E3)],[],[]⟩ [] 60 Tryz.f15 [.agg ⟨[.bool A3,.string A2,.bool A6,.string A5,.bool A4,.string A9,.bool A8,.string A7,.bool AB,.string AA]⟩,.agg ⟨[.bool AD,.string AC,.bool AH,.string AG,.bool AJ,.string AI,.bool B7,.string B6,.bool AF,.string AE]⟩] []=culetref02_Mul.K B9 B8 C7 E4 E3 A3 A2 A6 A5 A4 A9 A8 A7 AB AA AD AC AH AG AJ AI B7 B6 AF AE (fun r=>some (.agg ⟨[.bool r.1,.string r.2.1,.bool r.2.2.1,.string r.2.2.2.1,.bool r.2.2.2.2.1,.string r.2.2.2.2.2.1,.bool r.2.2.2.2.2.2.1,.string r.2.2.2.2.2.2.2.1,.bool r.2.2.2.2.2.2.2.2.1,.string r.2.2.2.2.2.2.2.2.2]⟩,[])):=by kernel_rfl
noncomputable def culetref02_Mul.o:Option (TY5):=culetref02_Mul.K culetref02_Valid culetref02_Valid.pre culetref02_words culetref02_number culetref02_number.pre A3 A2 A6 A5 A4 A9 A8 A7 AB AA AD AC AH AG AJ AI B7 B6 AF AE some
noncomputable def culetref02_Mul.pre:Bool:=(culetref02_Mul.o A3 A2 A6 A5 A4 A9 A8 A7 AB AA AD AC AH AG AJ AI B7 B6 AF AE).isSome
noncomputable def culetref02_Mul:TY5:=(culetref02_Mul.o A3 A2 A6 A5 A4 A9 A8 A7 AB AA AD AC AH AG AJ AI B7 B6 AF AE).getD default
theorem culetref02_Mul.nat (k:TY5→Option R):culetref02_Mul.K B9 B8 C7 E4 E3 A3 A2 A6 A5 A4 A9 A8 A7 AB AA AD AC AH AG AJ AI B7 B6 AF AE k=(culetref02_Mul.K B9 B8 C7 E4 E3 A3 A2 A6 A5 A4 A9 A8 A7 AB AA AD AC AH AG AJ AI B7 B6 AF AE some).bind k:=by
 simp only [culetref02_Mul.K,bcond,Option.bind_some,Option.bind_none]
end
theorem wrap_k (z:Int):∃k:Int,IntKind.i64.wrap z=z+18446744073709551616*k:=by
  simp only [IntKind.wrap,IntKind.signed,IntKind.bits,Bool.true_and]
  split
  · exact ⟨-(z / 18446744073709551616) - 1, by have:=Int.emod_add_mul_ediv z 18446744073709551616; have e:(2:Int)^64=18446744073709551616:=by decide
                                               rw [e]; omega⟩
  · exact ⟨-(z / 18446744073709551616), by have:=Int.emod_add_mul_ediv z 18446744073709551616; have e:(2:Int)^64=18446744073709551616:=by decide
                                           rw [e]; omega⟩
theorem wrap_mod (z k:Int):IntKind.i64.wrap (z+18446744073709551616*k)=IntKind.i64.wrap z:=by
 have e:(2:Int)^64=18446744073709551616:=by decide
 simp only [IntKind.wrap,IntKind.signed,IntKind.bits,e]
 rw [show (z+18446744073709551616*k)%18446744073709551616=z%18446744073709551616 by omega]
theorem wrapA1 (a b:Int):IntKind.i64.wrap (IntKind.i64.wrap a+b)=IntKind.i64.wrap (a+b):=by
 obtain ⟨k,e⟩:=wrap_k a
 rw [e,show a+18446744073709551616*k+b=a+b+18446744073709551616*k by omega,wrap_mod]
theorem wrapA2 (a b:Int):IntKind.i64.wrap (a+IntKind.i64.wrap b)=IntKind.i64.wrap (a+b):=by rw [Int.add_comm,wrapA1,Int.add_comm]
theorem wrapM1 (a b:Int):IntKind.i64.wrap (IntKind.i64.wrap a*b)=IntKind.i64.wrap (a*b):=by
 obtain ⟨k,e⟩:=wrap_k a
 rw [e,Int.add_mul,Int.mul_assoc,wrap_mod]
theorem abs_mul_le {a b:Int} {m n:Nat} (ha:a.natAbs≤m) (hb:b.natAbs≤n):(a*b).natAbs≤m*n:=by rw [Int.natAbs_mul]; exact Nat.mul_le_mul ha hb
theorem qsum_le {a b c d:Int} {M:Nat} {u v w:Int} (huvw:1+u.natAbs+v.natAbs+w.natAbs≤12) (h0:a.natAbs≤M) (h1:b.natAbs≤M) (h2:c.natAbs≤M) (h3:d.natAbs≤M):(0+1*a+u*b+v*c+w*d).natAbs≤12*M:=by
 have k:∀(u b:Int),b.natAbs≤M→(u*b).natAbs≤u.natAbs*M:=fun u b h=>by rw [Int.natAbs_mul]; exact Nat.mul_le_mul_left _ h
 have k1:=k u b h1; have k2:=k v c h2; have k3:=k w d h3
 have k4:(1+u.natAbs+v.natAbs+w.natAbs)*M≤12*M:=Nat.mul_le_mul_right _ huvw
 have k5:(1+u.natAbs+v.natAbs+w.natAbs)*M=M+u.natAbs*M+v.natAbs*M+w.natAbs*M:=by rw [Nat.add_mul,Nat.add_mul,Nat.add_mul,Nat.one_mul]
 omega
theorem qprod_le {m n:Nat} {x y:Q} (hx:x.Le m) (hy:y.Le n):(qprod x y).Le (12*(m*n)):=by
 have k:= @abs_mul_le
 have p00:=k hx.c0 hy.c0; have p01:=k hx.c0 hy.c1; have p02:=k hx.c0 hy.c2; have p03:=k hx.c0 hy.c3
 have p10:=k hx.c1 hy.c0; have p11:=k hx.c1 hy.c1; have p12:=k hx.c1 hy.c2; have p13:=k hx.c1 hy.c3
 have p20:=k hx.c2 hy.c0; have p21:=k hx.c2 hy.c1; have p22:=k hx.c2 hy.c2; have p23:=k hx.c2 hy.c3
 have p30:=k hx.c3 hy.c0; have p31:=k hx.c3 hy.c1; have p32:=k hx.c3 hy.c2; have p33:=k hx.c3 hy.c3
 have pd:=k hx.d hy.d
 exact ⟨qsum_le (by decide) p00 p11 p22 p33,qsum_le (by decide) p01 p10 p23 p32,qsum_le (by decide) p02 p13 p20 p31,qsum_le (by decide) p03 p12 p21 p30,Nat.le_trans pd (by omega)⟩
theorem culetref02_Mul.os {m n:Nat} {x y:Q} (hx:x.Le m) (hy:y.Le n) (hm:m≤16777215) (hn:n≤16777215) (hmn:12*(m*n)≤4611686018427387904) (ox:x.ok=true) (oy:y.ok=true):culetref02_Mul.o (dI x.c0).1 (dI x.c0).2 (dI x.c1).1 (dI x.c1).2 (dI x.c2).1 (dI x.c2).2 (dI x.c3).1 (dI x.c3).2 (dI x.d).1 (dI x.d).2 (dI y.c0).1 (dI y.c0).2 (dI y.c1).1 (dI y.c1).2 (dI y.c2).1 (dI y.c2).2 (dI y.c3).1 (dI y.c3).2 (dI y.d).1 (dI y.d).2=some (C5 (qmul x y)):=by
 have lp:=qprod_le hx hy
 have hx:=hx.mono hm
 have hy:=hy.mono hn
 have lq:(qprod x y).Le 4611686018427387904:=lp.mono hmn
 have hd:0<(qprod x y).d:=Int.mul_pos (Q.ok_d ox).1 (Q.ok_d oy).1
 have w:∀ {z z':Int},z'.natAbs≤4611686018427387904→z=z'→IntKind.i64.wrap z=z':=fun {z z'} h e=>by rw [e]; exact w64 (by omega) (by omega)
 have e0:IntKind.i64.wrap (x.c0*y.c0+2*x.c1*y.c1+3*x.c2*y.c2+6*x.c3*y.c3)=(qprod x y).c0:=w lq.c0 (by simp only [qprod]; grind)
 have e1:IntKind.i64.wrap (x.c0*y.c1+x.c1*y.c0+3*x.c2*y.c3+3*x.c3*y.c2)=(qprod x y).c1:=w lq.c1 (by simp only [qprod]; grind)
 have e2:IntKind.i64.wrap (x.c0*y.c2+x.c2*y.c0+2*x.c1*y.c3+2*x.c3*y.c1)=(qprod x y).c2:=w lq.c2 (by simp only [qprod]; grind)
 have e3:IntKind.i64.wrap (x.c0*y.c3+x.c3*y.c0+x.c1*y.c2+x.c2*y.c1)=(qprod x y).c3:=w lq.c3 (by simp only [qprod]; grind)
 have e4:IntKind.i64.wrap (x.d*y.d)=(qprod x y).d:=w lq.d rfl
 simp only [culetref02_Mul.o,culetref02_Mul.K,culetref02_Valid.ps hx,culetref02_Valid.es hx,culetref02_Valid.ps hy,culetref02_Valid.es hy,ox,oy,words_dI hx,words_dI hy,cond_true,Bool.not_true,cond_false,wrapA1,wrapA2,wrapM1,e0,e1,e2,e3,e4,culetref02_number.ps lq hd,culetref02_number.es lq hd]
 rfl
theorem culetref02_Mul.ps {m n:Nat} {x y:Q} (hx:x.Le m) (hy:y.Le n) (hm:m≤16777215) (hn:n≤16777215) (hmn:12*(m*n)≤4611686018427387904) (ox:x.ok=true) (oy:y.ok=true):culetref02_Mul.pre (dI x.c0).1 (dI x.c0).2 (dI x.c1).1 (dI x.c1).2 (dI x.c2).1 (dI x.c2).2 (dI x.c3).1 (dI x.c3).2 (dI x.d).1 (dI x.d).2 (dI y.c0).1 (dI y.c0).2 (dI y.c1).1 (dI y.c1).2 (dI y.c2).1 (dI y.c2).2 (dI y.c3).1 (dI y.c3).2 (dI y.d).1 (dI y.d).2=true:=isSome_of (culetref02_Mul.os hx hy hm hn hmn ox oy)
theorem culetref02_Mul.es {m n:Nat} {x y:Q} (hx:x.Le m) (hy:y.Le n) (hm:m≤16777215) (hn:n≤16777215) (hmn:12*(m*n)≤4611686018427387904) (ox:x.ok=true) (oy:y.ok=true):culetref02_Mul (dI x.c0).1 (dI x.c0).2 (dI x.c1).1 (dI x.c1).2 (dI x.c2).1 (dI x.c2).2 (dI x.c3).1 (dI x.c3).2 (dI x.d).1 (dI x.d).2 (dI y.c0).1 (dI y.c0).2 (dI y.c1).1 (dI y.c1).2 (dI y.c2).1 (dI y.c2).2 (dI y.c3).1 (dI y.c3).2 (dI y.d).1 (dI y.d).2=C5 (qmul x y):=getD_of (culetref02_Mul.os hx hy hm hn hmn ox oy)
theorem culetref02_Mul.ok:SOK Tryz.prog 15 (culetref02_Mul.sp culetref02_Mul culetref02_Mul.pre):=by
 refine sok_of (E:=⟨[(52,culetref02_Valid.sp culetref02_Valid culetref02_Valid.pre),(54,culetref02_words.sp culetref02_words),(55,culetref02_number.sp culetref02_number culetref02_number.pre)],[],[]⟩) (L:=[]) ⟨(specs_cons culetref02_Valid.ok (specs_cons culetref02_words.ok (specs_cons culetref02_number.ok specs_nil))),inl_nil,mixed_ok,lps_nil⟩ 60 Tryz.func15 (by decide) rfl no_loops fun vs bl v bl' h=> ?_
 unfold culetref02_Mul.sp at h
 split at h
 ·rename_i A3 A2 A6 A5 A4 A9 A8 A7 AB AA AD AC AH AG AJ AI B7 B6 AF AE
  simp only [Option.some.injEq,Prod.mk.injEq] at h
  obtain ⟨hp,rfl,rfl⟩:=h
  have hr:=culetref02_Mul.run culetref02_Valid culetref02_Valid.pre culetref02_words culetref02_number culetref02_number.pre A3 A2 A6 A5 A4 A9 A8 A7 AB AA AD AC AH AG AJ AI B7 B6 AF AE
  rw [culetref02_Mul.nat] at hr
  obtain ⟨r,h2⟩:=Option.isSome_iff_exists.1 (hp:(culetref02_Mul.o A3 A2 A6 A5 A4 A9 A8 A7 AB AA AD AC AH AG AJ AI B7 B6 AF AE).isSome=true)
  have h3:culetref02_Mul A3 A2 A6 A5 A4 A9 A8 A7 AB AA AD AC AH AG AJ AI B7 B6 AF AE=r:=by unfold culetref02_Mul; rw [h2]; rfl
  have h4:culetref02_Mul.K culetref02_Valid culetref02_Valid.pre culetref02_words culetref02_number culetref02_number.pre A3 A2 A6 A5 A4 A9 A8 A7 AB AA AD AC AH AG AJ AI B7 B6 AF AE some=some r:=h2
  rw [h4,Option.bind_some] at hr
  rw [h3]
  exact ⟨hr,by simp [okV,Nat.blt],clo_spec 8 _ (by kernel_rfl),told_blk (by kernel_rfl)⟩
 ·cases h
section
variable {R:Type} (CB:TF10 (TY5)) (C9:TF10 Bool) (BU:TF15 (Bool)) (BS:TF15 Bool) (B9:TF5 (Bool)) (B8:TF5 Bool) (A3:Bool) (A2:ByteArray) (A6:Bool) (A5:ByteArray) (A4:Bool) (A9:ByteArray) (A8:Bool) (A7:ByteArray) (AB:Bool) (AA:ByteArray) (B5:Bool) (B4:ByteArray) (B3:Bool) (B2:ByteArray) (AZ:Bool) (AY:ByteArray) (AX:Bool) (AW:ByteArray) (AV:Bool) (AU:ByteArray) (AT:Bool) (AS:ByteArray) (AR:Bool) (AQ:ByteArray) (AP:Bool) (AO:ByteArray) (AN:Bool) (AM:ByteArray) (AL:Bool) (AK:ByteArray) (AD:Bool) (AC:ByteArray) (AH:Bool) (AG:ByteArray) (AJ:Bool) (AI:ByteArray) (B7:Bool) (B6:ByteArray) (AF:Bool) (AE:ByteArray)
noncomputable def culetref04_Scale.K (k:TY15→Option R):Option R:=
 let t0:=BS A3 A2 A6 A5 A4 A9 A8 A7 AB AA B5 B4 B3 B2 AZ AY AX AW AV AU AT AS AR AQ AP AO AN AM AL AK
 bif t0 then
 let t1:=BU A3 A2 A6 A5 A4 A9 A8 A7 AB AA B5 B4 B3 B2 AZ AY AX AW AV AU AT AS AR AQ AP AO AN AM AL AK
 bif !t1 then k (false,{data:= #[]},false,{data:= #[]},false,{data:= #[]},false,{data:= #[]},false,{data:= #[]},false,{data:= #[]},false,{data:= #[]},false,{data:= #[]},false,{data:= #[]},false,{data:= #[]},false,{data:= #[]},false,{data:= #[]},false,{data:= #[]},false,{data:= #[]},false,{data:= #[]}) else
 let t2:=B8 AD AC AH AG AJ AI B7 B6 AF AE
 bif t2 then
 let t3:=B9 AD AC AH AG AJ AI B7 B6 AF AE
 bif !t3 then k (false,{data:= #[]},false,{data:= #[]},false,{data:= #[]},false,{data:= #[]},false,{data:= #[]},false,{data:= #[]},false,{data:= #[]},false,{data:= #[]},false,{data:= #[]},false,{data:= #[]},false,{data:= #[]},false,{data:= #[]},false,{data:= #[]},false,{data:= #[]},false,{data:= #[]}) else
 let t4:=C9 A3 A2 A6 A5 A4 A9 A8 A7 AB AA AD AC AH AG AJ AI B7 B6 AF AE
 bif t4 then
 let t5:=C9 B5 B4 B3 B2 AZ AY AX AW AV AU AD AC AH AG AJ AI B7 B6 AF AE
 bif t5 then
 let t6:=C9 AT AS AR AQ AP AO AN AM AL AK AD AC AH AG AJ AI B7 B6 AF AE
 bif t6 then
 let t7:=CB A3 A2 A6 A5 A4 A9 A8 A7 AB AA AD AC AH AG AJ AI B7 B6 AF AE
 let t8:=CB B5 B4 B3 B2 AZ AY AX AW AV AU AD AC AH AG AJ AI B7 B6 AF AE
 let t9:=CB AT AS AR AQ AP AO AN AM AL AK AD AC AH AG AJ AI B7 B6 AF AE
 k (t7.1,t7.2.1,t7.2.2.1,t7.2.2.2.1,t7.2.2.2.2.1,t7.2.2.2.2.2.1,t7.2.2.2.2.2.2.1,t7.2.2.2.2.2.2.2.1,t7.2.2.2.2.2.2.2.2.1,t7.2.2.2.2.2.2.2.2.2,t8.1,t8.2.1,t8.2.2.1,t8.2.2.2.1,t8.2.2.2.2.1,t8.2.2.2.2.2.1,t8.2.2.2.2.2.2.1,t8.2.2.2.2.2.2.2.1,t8.2.2.2.2.2.2.2.2.1,t8.2.2.2.2.2.2.2.2.2,t9.1,t9.2.1,t9.2.2.1,t9.2.2.2.1,t9.2.2.2.2.1,t9.2.2.2.2.2.1,t9.2.2.2.2.2.2.1,t9.2.2.2.2.2.2.2.1,t9.2.2.2.2.2.2.2.2.1,t9.2.2.2.2.2.2.2.2.2) else none else none else none else none else none
theorem culetref04_Scale.run:xfn Tryz.prog ⟨[(15,culetref02_Mul.sp CB C9),(42,culetref04_Valid.sp BU BS),(52,culetref02_Valid.sp B9 B8)],[],[]⟩ [] 60 Tryz.f14 [.agg ⟨[.bool A3,.string A2,.bool A6,.string A5,.bool A4,.string A9,.bool A8,.string A7,.bool AB,.string AA,.bool B5,.string B4,.bool B3,.string B2,.bool AZ,.string AY,.bool AX,.string AW,.bool AV,.string AU,.bool AT,.string AS,.bool AR,.string AQ,.bool AP,.string AO,.bool AN,.string AM,.bool AL,.string AK]⟩,.agg ⟨[.bool AD,.string AC,.bool AH,.string AG,.bool AJ,.string AI,.bool B7,.string B6,.bool AF,.string AE]⟩] []=culetref04_Scale.K CB C9 BU BS B9 B8 A3 A2 A6 A5 A4 A9 A8 A7 AB AA B5 B4 B3 B2 AZ AY AX AW AV AU AT AS AR AQ AP AO AN AM AL AK AD AC AH AG AJ AI B7 B6 AF AE (fun r=>some (.agg ⟨[.bool r.1,.string r.2.1,.bool r.2.2.1,.string r.2.2.2.1,.bool r.2.2.2.2.1,.string r.2.2.2.2.2.1,.bool r.2.2.2.2.2.2.1,.string r.2.2.2.2.2.2.2.1,.bool r.2.2.2.2.2.2.2.2.1,.string r.2.2.2.2.2.2.2.2.2.1,.bool r.2.2.2.2.2.2.2.2.2.2.1,.string r.2.2.2.2.2.2.2.2.2.2.2.1,.bool r.2.2.2.2.2.2.2.2.2.2.2.2.1,.string r.2.2.2.2.2.2.2.2.2.2.2.2.2.1,.bool r.2.2.2.2.2.2.2.2.2.2.2.2.2.2.1,.string r.2.2.2.2.2.2.2.2.2.2.2.2.2.2.2.1,.bool r.2.2.2.2.2.2.2.2.2.2.2.2.2.2.2.2.1,.string r.2.2.2.2.2.2.2.2.2.2.2.2.2.2.2.2.2.1,.bool r.2.2.2.2.2.2.2.2.2.2.2.2.2.2.2.2.2.2.1,.string r.2.2.2.2.2.2.2.2.2.2.2.2.2.2.2.2.2.2.2.1,.bool r.2.2.2.2.2.2.2.2.2.2.2.2.2.2.2.2.2.2.2.2.1,.string r.2.2.2.2.2.2.2.2.2.2.2.2.2.2.2.2.2.2.2.2.2.1,.bool r.2.2.2.2.2.2.2.2.2.2.2.2.2.2.2.2.2.2.2.2.2.2.1,.string r.2.2.2.2.2.2.2.2.2.2.2.2.2.2.2.2.2.2.2.2.2.2.2.1,.bool r.2.2.2.2.2.2.2.2.2.2.2.2.2.2.2.2.2.2.2.2.2.2.2.2.1,.string r.2.2.2.2.2.2.2.2.2.2.2.2.2.2.2.2.2.2.2.2.2.2.2.2.2.1,.bool r.2.2.2.2.2.2.2.2.2.2.2.2.2.2.2.2.2.2.2.2.2.2.2.2.2.2.1,.string r.2.2.2.2.2.2.2.2.2.2.2.2.2.2.2.2.2.2.2.2.2.2.2.2.2.2.2.1,.bool r.2.2.2.2.2.2.2.2.2.2.2.2.2.2.2.2.2.2.2.2.2.2.2.2.2.2.2.2.1,.string r.2.2.2.2.2.2.2.2.2.2.2.2.2.2.2.2.2.2.2.2.2.2.2.2.2.2.2.2.2]⟩,[])):=by kernel_rfl
noncomputable def culetref04_Scale.o:Option (TY15):=culetref04_Scale.K culetref02_Mul culetref02_Mul.pre culetref04_Valid culetref04_Valid.pre culetref02_Valid culetref02_Valid.pre A3 A2 A6 A5 A4 A9 A8 A7 AB AA B5 B4 B3 B2 AZ AY AX AW AV AU AT AS AR AQ AP AO AN AM AL AK AD AC AH AG AJ AI B7 B6 AF AE some
noncomputable def culetref04_Scale.pre:Bool:=(culetref04_Scale.o A3 A2 A6 A5 A4 A9 A8 A7 AB AA B5 B4 B3 B2 AZ AY AX AW AV AU AT AS AR AQ AP AO AN AM AL AK AD AC AH AG AJ AI B7 B6 AF AE).isSome
noncomputable def culetref04_Scale:TY15:=(culetref04_Scale.o A3 A2 A6 A5 A4 A9 A8 A7 AB AA B5 B4 B3 B2 AZ AY AX AW AV AU AT AS AR AQ AP AO AN AM AL AK AD AC AH AG AJ AI B7 B6 AF AE).getD default
theorem culetref04_Scale.nat (k:TY15→Option R):culetref04_Scale.K CB C9 BU BS B9 B8 A3 A2 A6 A5 A4 A9 A8 A7 AB AA B5 B4 B3 B2 AZ AY AX AW AV AU AT AS AR AQ AP AO AN AM AL AK AD AC AH AG AJ AI B7 B6 AF AE k=(culetref04_Scale.K CB C9 BU BS B9 B8 A3 A2 A6 A5 A4 A9 A8 A7 AB AA B5 B4 B3 B2 AZ AY AX AW AV AU AT AS AR AQ AP AO AN AM AL AK AD AC AH AG AJ AI B7 B6 AF AE some).bind k:=by
 simp only [culetref04_Scale.K,bcond,Option.bind_some,Option.bind_none]
theorem culetref04_Scale.os {m n:Nat} {x y z q:Q} (hx:x.Le m) (hy:y.Le m) (hz:z.Le m) (hq:q.Le n) (hm:m≤16777215) (hn:n≤16777215) (hmn:12*(m*n)≤4611686018427387904) (ox:x.ok=true) (oy:y.ok=true) (oz:z.ok=true) (oq:q.ok=true):culetref04_Scale.o (dI x.c0).1 (dI x.c0).2 (dI x.c1).1 (dI x.c1).2 (dI x.c2).1 (dI x.c2).2 (dI x.c3).1 (dI x.c3).2 (dI x.d).1 (dI x.d).2 (dI y.c0).1 (dI y.c0).2 (dI y.c1).1 (dI y.c1).2 (dI y.c2).1 (dI y.c2).2 (dI y.c3).1 (dI y.c3).2 (dI y.d).1 (dI y.d).2 (dI z.c0).1 (dI z.c0).2 (dI z.c1).1 (dI z.c1).2 (dI z.c2).1 (dI z.c2).2 (dI z.c3).1 (dI z.c3).2 (dI z.d).1 (dI z.d).2 (dI q.c0).1 (dI q.c0).2 (dI q.c1).1 (dI q.c1).2 (dI q.c2).1 (dI q.c2).2 (dI q.c3).1 (dI q.c3).2 (dI q.d).1 (dI q.d).2=some ((dI (qmul x q).c0).1,(dI (qmul x q).c0).2,(dI (qmul x q).c1).1,(dI (qmul x q).c1).2,(dI (qmul x q).c2).1,(dI (qmul x q).c2).2,(dI (qmul x q).c3).1,(dI (qmul x q).c3).2,(dI (qmul x q).d).1,(dI (qmul x q).d).2,(dI (qmul y q).c0).1,(dI (qmul y q).c0).2,(dI (qmul y q).c1).1,(dI (qmul y q).c1).2,(dI (qmul y q).c2).1,(dI (qmul y q).c2).2,(dI (qmul y q).c3).1,(dI (qmul y q).c3).2,(dI (qmul y q).d).1,(dI (qmul y q).d).2,(dI (qmul z q).c0).1,(dI (qmul z q).c0).2,(dI (qmul z q).c1).1,(dI (qmul z q).c1).2,(dI (qmul z q).c2).1,(dI (qmul z q).c2).2,(dI (qmul z q).c3).1,(dI (qmul z q).c3).2,(dI (qmul z q).d).1,(dI (qmul z q).d).2):=by
 have mp:=fun {w:Q} (hw:w.Le m) (ow:w.ok=true)=>culetref02_Mul.ps hw hq hm hn hmn ow oq
 have me:=fun {w:Q} (hw:w.Le m) (ow:w.ok=true)=>culetref02_Mul.es hw hq hm hn hmn ow oq
 simp only [culetref04_Scale.o,culetref04_Scale.K,culetref04_Valid.ps (hx.mono hm) (hy.mono hm) (hz.mono hm),culetref04_Valid.es (hx.mono hm) (hy.mono hm) (hz.mono hm),culetref02_Valid.ps (hq.mono hn),culetref02_Valid.es (hq.mono hn),ox,oy,oz,oq,mp hx ox,mp hy oy,mp hz oz,me hx ox,me hy oy,me hz oz,Bool.and_self,cond_true,Bool.not_true,cond_false]
 rfl
theorem culetref04_Scale.ps {m n:Nat} {x y z q:Q} (hx:x.Le m) (hy:y.Le m) (hz:z.Le m) (hq:q.Le n) (hm:m≤16777215) (hn:n≤16777215) (hmn:12*(m*n)≤4611686018427387904) (ox:x.ok=true) (oy:y.ok=true) (oz:z.ok=true) (oq:q.ok=true):culetref04_Scale.pre (dI x.c0).1 (dI x.c0).2 (dI x.c1).1 (dI x.c1).2 (dI x.c2).1 (dI x.c2).2 (dI x.c3).1 (dI x.c3).2 (dI x.d).1 (dI x.d).2 (dI y.c0).1 (dI y.c0).2 (dI y.c1).1 (dI y.c1).2 (dI y.c2).1 (dI y.c2).2 (dI y.c3).1 (dI y.c3).2 (dI y.d).1 (dI y.d).2 (dI z.c0).1 (dI z.c0).2 (dI z.c1).1 (dI z.c1).2 (dI z.c2).1 (dI z.c2).2 (dI z.c3).1 (dI z.c3).2 (dI z.d).1 (dI z.d).2 (dI q.c0).1 (dI q.c0).2 (dI q.c1).1 (dI q.c1).2 (dI q.c2).1 (dI q.c2).2 (dI q.c3).1 (dI q.c3).2 (dI q.d).1 (dI q.d).2=true:=isSome_of (culetref04_Scale.os hx hy hz hq hm hn hmn ox oy oz oq)
theorem culetref04_Scale.es {m n:Nat} {x y z q:Q} (hx:x.Le m) (hy:y.Le m) (hz:z.Le m) (hq:q.Le n) (hm:m≤16777215) (hn:n≤16777215) (hmn:12*(m*n)≤4611686018427387904) (ox:x.ok=true) (oy:y.ok=true) (oz:z.ok=true) (oq:q.ok=true):culetref04_Scale (dI x.c0).1 (dI x.c0).2 (dI x.c1).1 (dI x.c1).2 (dI x.c2).1 (dI x.c2).2 (dI x.c3).1 (dI x.c3).2 (dI x.d).1 (dI x.d).2 (dI y.c0).1 (dI y.c0).2 (dI y.c1).1 (dI y.c1).2 (dI y.c2).1 (dI y.c2).2 (dI y.c3).1 (dI y.c3).2 (dI y.d).1 (dI y.d).2 (dI z.c0).1 (dI z.c0).2 (dI z.c1).1 (dI z.c1).2 (dI z.c2).1 (dI z.c2).2 (dI z.c3).1 (dI z.c3).2 (dI z.d).1 (dI z.d).2 (dI q.c0).1 (dI q.c0).2 (dI q.c1).1 (dI q.c1).2 (dI q.c2).1 (dI q.c2).2 (dI q.c3).1 (dI q.c3).2 (dI q.d).1 (dI q.d).2=((dI (qmul x q).c0).1,(dI (qmul x q).c0).2,(dI (qmul x q).c1).1,(dI (qmul x q).c1).2,(dI (qmul x q).c2).1,(dI (qmul x q).c2).2,(dI (qmul x q).c3).1,(dI (qmul x q).c3).2,(dI (qmul x q).d).1,(dI (qmul x q).d).2,(dI (qmul y q).c0).1,(dI (qmul y q).c0).2,(dI (qmul y q).c1).1,(dI (qmul y q).c1).2,(dI (qmul y q).c2).1,(dI (qmul y q).c2).2,(dI (qmul y q).c3).1,(dI (qmul y q).c3).2,(dI (qmul y q).d).1,(dI (qmul y q).d).2,(dI (qmul z q).c0).1,(dI (qmul z q).c0).2,(dI (qmul z q).c1).1,(dI (qmul z q).c1).2,(dI (qmul z q).c2).1,(dI (qmul z q).c2).2,(dI (qmul z q).c3).1,(dI (qmul z q).c3).2,(dI (qmul z q).d).1,(dI (qmul z q).d).2):=getD_of (culetref04_Scale.os hx hy hz hq hm hn hmn ox oy oz oq)
end
theorem culetref04_Scale.ok:SOK Tryz.prog 14 (culetref04_Scale.sp culetref04_Scale culetref04_Scale.pre):=by
 refine sok_of (E:=⟨[(15,culetref02_Mul.sp culetref02_Mul culetref02_Mul.pre),(42,culetref04_Valid.sp culetref04_Valid culetref04_Valid.pre),(52,culetref02_Valid.sp culetref02_Valid culetref02_Valid.pre)],[],[]⟩) (L:=[]) ⟨(specs_cons culetref02_Mul.ok (specs_cons culetref04_Valid.ok (specs_cons culetref02_Valid.ok specs_nil))),inl_nil,mixed_ok,lps_nil⟩ 60 Tryz.func14 (by decide) rfl no_loops fun vs bl v bl' h=> ?_
 unfold culetref04_Scale.sp at h
 split at h
 ·rename_i A3 A2 A6 A5 A4 A9 A8 A7 AB AA B5 B4 B3 B2 AZ AY AX AW AV AU AT AS AR AQ AP AO AN AM AL AK AD AC AH AG AJ AI B7 B6 AF AE
  simp only [Option.some.injEq,Prod.mk.injEq] at h
  obtain ⟨hp,rfl,rfl⟩:=h
  have hr:=culetref04_Scale.run culetref02_Mul culetref02_Mul.pre culetref04_Valid culetref04_Valid.pre culetref02_Valid culetref02_Valid.pre A3 A2 A6 A5 A4 A9 A8 A7 AB AA B5 B4 B3 B2 AZ AY AX AW AV AU AT AS AR AQ AP AO AN AM AL AK AD AC AH AG AJ AI B7 B6 AF AE
  rw [culetref04_Scale.nat] at hr
  obtain ⟨r,h2⟩:=Option.isSome_iff_exists.1 (hp:(culetref04_Scale.o A3 A2 A6 A5 A4 A9 A8 A7 AB AA B5 B4 B3 B2 AZ AY AX AW AV AU AT AS AR AQ AP AO AN AM AL AK AD AC AH AG AJ AI B7 B6 AF AE).isSome=true)
  have h3:culetref04_Scale A3 A2 A6 A5 A4 A9 A8 A7 AB AA B5 B4 B3 B2 AZ AY AX AW AV AU AT AS AR AQ AP AO AN AM AL AK AD AC AH AG AJ AI B7 B6 AF AE=r:=by unfold culetref04_Scale; rw [h2]; rfl
  have h4:culetref04_Scale.K culetref02_Mul culetref02_Mul.pre culetref04_Valid culetref04_Valid.pre culetref02_Valid culetref02_Valid.pre A3 A2 A6 A5 A4 A9 A8 A7 AB AA B5 B4 B3 B2 AZ AY AX AW AV AU AT AS AR AQ AP AO AN AM AL AK AD AC AH AG AJ AI B7 B6 AF AE some=some r:=h2
  rw [h4,Option.bind_some] at hr
  rw [h3]
  exact ⟨hr,by simp [okV,Nat.blt],clo_spec 8 _ (by kernel_rfl),told_blk (by kernel_rfl)⟩
 ·cases h
end Go.Proofs.YtpejalpgficopaaGreatDoor.G
end
