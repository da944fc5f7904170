/- A part of what the law's proof leans on. PACKED BY pack.py of this repo. -/
import Derived.Test.YtpejalpgficopaaGreatDoorN8
set_option linter.unusedVariables false
set_option linter.unusedSimpArgs false
set_option linter.defProp false
set_option linter.unusedSectionVars false
section
namespace Go.Proofs.YtpejalpgficopaaGreatDoor.G
set_option maxRecDepth 100000
open Go Go.Proofs Go.RowKit RX
section
variable {R:Type} (EA:Bool→ByteArray→Bool→ByteArray→(Bool×ByteArray)) (E7:Bool→ByteArray→Bool→ByteArray→Bool) (A3:Bool) (A2:ByteArray) (A6:Bool) (A5:ByteArray) (A4:Bool) (A9:ByteArray) (A8:Bool) (A7:ByteArray) (AD:Bool) (AC:ByteArray)
def field_common.K (k:Bool×ByteArray→Option R):Option R:=
 let t0:=E7 AD AC A3 A2
 bif t0 then
 let t1:=EA AD AC A3 A2
 let t2:=E7 t1.1 t1.2 A6 A5
 bif t2 then
 let t3:=EA t1.1 t1.2 A6 A5
 let t4:=E7 t3.1 t3.2 A4 A9
 bif t4 then
 let t5:=EA t3.1 t3.2 A4 A9
 let t6:=E7 t5.1 t5.2 A8 A7
 bif t6 then
 let t7:=EA t5.1 t5.2 A8 A7
 k (t7.1,t7.2) else none else none else none else none
theorem field_common.run:xfn Tryz.prog ⟨[(185,bigint_Gcd.sp EA E7)],[],[]⟩ [] 60 Tryz.f159 [.agg ⟨[.bool A3,.string A2,.bool A6,.string A5,.bool A4,.string A9,.bool A8,.string A7]⟩,.agg ⟨[.bool AD,.string AC]⟩] []=field_common.K EA E7 A3 A2 A6 A5 A4 A9 A8 A7 AD AC (fun r=>some (.agg ⟨[.bool r.1,.string r.2]⟩,[])):=by kernel_rfl
def field_common.o:Option (Bool×ByteArray):=field_common.K bigint_Gcd bigint_Gcd.pre A3 A2 A6 A5 A4 A9 A8 A7 AD AC some
def field_common.pre:Bool:=(field_common.o A3 A2 A6 A5 A4 A9 A8 A7 AD AC).isSome
def field_common:Bool×ByteArray:=(field_common.o A3 A2 A6 A5 A4 A9 A8 A7 AD AC).getD default
theorem field_common.nat (k:Bool×ByteArray→Option R):field_common.K EA E7 A3 A2 A6 A5 A4 A9 A8 A7 AD AC k=(field_common.K EA E7 A3 A2 A6 A5 A4 A9 A8 A7 AD AC some).bind k:=by
 simp only [field_common.K,bcond,Option.bind_some,Option.bind_none]
theorem field_common.os {k:Nat} {c0 c1 c2 c3 d:Int} (h0:Bd k c0) (h1:Bd k c1) (h2:Bd k c2) (h3:Bd k c3) (hd:Bd k d) (hk:k≤LIM):
  field_common.o (dI c0).1 (dI c0).2 (dI c1).1 (dI c1).2 (dI c2).1 (dI c2).2 (dI c3).1 (dI c3).2 (dI d).1 (dI d).2=some (dI (gg c0 c1 c2 c3 d)):=by
 have g0:=gcd_bd (j:=k) hd h0
 have g1:=gcd_bd (j:=k) g0 h1
 have g2:=gcd_bd (j:=k) g1 h2
 simp only [field_common.o,field_common.K,bigint_Gcd_dI,gcd_pre hd h0 hk hk,gcd_pre g0 h1 hk hk,gcd_pre g1 h2 hk hk,gcd_pre g2 h3 hk hk,cond_true]
 rfl
theorem field_common.ps {k:Nat} {c0 c1 c2 c3 d:Int} (h0:Bd k c0) (h1:Bd k c1) (h2:Bd k c2) (h3:Bd k c3) (hd:Bd k d) (hk:k≤LIM):
 field_common.pre (dI c0).1 (dI c0).2 (dI c1).1 (dI c1).2 (dI c2).1 (dI c2).2 (dI c3).1 (dI c3).2 (dI d).1 (dI d).2=true:=isSome_of (field_common.os h0 h1 h2 h3 hd hk)
theorem field_common.es {k:Nat} {c0 c1 c2 c3 d:Int} (h0:Bd k c0) (h1:Bd k c1) (h2:Bd k c2) (h3:Bd k c3) (hd:Bd k d) (hk:k≤LIM):
 field_common (dI c0).1 (dI c0).2 (dI c1).1 (dI c1).2 (dI c2).1 (dI c2).2 (dI c3).1 (dI c3).2 (dI d).1 (dI d).2=dI (gg c0 c1 c2 c3 d):=getD_of (field_common.os h0 h1 h2 h3 hd hk)
end
theorem field_common.ok:SOK Tryz.prog 159 (field_common.sp field_common field_common.pre):=by
 refine sok_of (E:=⟨[(185,bigint_Gcd.sp bigint_Gcd bigint_Gcd.pre)],[],[]⟩) (L:=[]) ⟨(specs_cons bigint_Gcd.ok specs_nil),inl_nil,mixed_ok,lps_nil⟩ 60 Tryz.func159 (by decide) rfl no_loops fun vs bl v bl' h=> ?_
 unfold field_common.sp at h
 split at h
 ·rename_i A3 A2 A6 A5 A4 A9 A8 A7 AD AC
  simp only [Option.some.injEq,Prod.mk.injEq] at h
  obtain ⟨hp,rfl,rfl⟩:=h
  have hr:=field_common.run bigint_Gcd bigint_Gcd.pre A3 A2 A6 A5 A4 A9 A8 A7 AD AC
  rw [field_common.nat] at hr
  obtain ⟨r,h2⟩:=Option.isSome_iff_exists.1 (hp:(field_common.o A3 A2 A6 A5 A4 A9 A8 A7 AD AC).isSome=true)
  have h3:field_common A3 A2 A6 A5 A4 A9 A8 A7 AD AC=r:=by unfold field_common; rw [h2]; rfl
  have h4:field_common.K bigint_Gcd bigint_Gcd.pre A3 A2 A6 A5 A4 A9 A8 A7 AD AC some=some r:=h2
  rw [h4,Option.bind_some] at hr
  rw [h3]
  exact ⟨hr,by simp [okV,Nat.blt],clo_spec 8 _ (by kernel_rfl),told_blk (by kernel_rfl)⟩
 ·cases h
section
variable {R:Type} (EN:Bool→ByteArray→Bool→ByteArray→(Bool×ByteArray×Bool×ByteArray×Int)) (EL:Bool→ByteArray→Bool→ByteArray→Bool) (A3:Bool) (A2:ByteArray) (AD:Bool) (AC:ByteArray)
def field_over.K (k:Bool×ByteArray→Option R):Option R:=
 let t0:=EL A3 A2 AD AC
 bif t0 then
 let t1:=EN A3 A2 AD AC
 k (t1.1,t1.2.1) else none
theorem field_over.run:xfn Tryz.prog ⟨[(198,bigint_DivMod.sp EN EL)],[],[]⟩ [] 60 Tryz.f194 [.agg ⟨[.bool A3,.string A2]⟩,.agg ⟨[.bool AD,.string AC]⟩] []=field_over.K EN EL A3 A2 AD AC (fun r=>some (.agg ⟨[.bool r.1,.string r.2]⟩,[])):=by kernel_rfl
def field_over.o:Option (Bool×ByteArray):=field_over.K bigint_DivMod bigint_DivMod.pre A3 A2 AD AC some
def field_over.pre:Bool:=(field_over.o A3 A2 AD AC).isSome
def field_over:Bool×ByteArray:=(field_over.o A3 A2 AD AC).getD default
theorem field_over.nat (k:Bool×ByteArray→Option R):field_over.K EN EL A3 A2 AD AC k=(field_over.K EN EL A3 A2 AD AC some).bind k:=by
 simp only [field_over.K,bcond,Option.bind_some,Option.bind_none]
theorem field_over.os {j k:Nat} {a b:Int} (ha:Bd j a) (hb:Bd k b) (hj:j≤LIM) (hk:k≤LIM) (h0:b≠0) (hd:b∣a):field_over.o (dI a).1 (dI a).2 (dI b).1 (dI b).2=some (dI (a/b)):=by
 simp only [field_over.o,field_over.K,dm_pre ha hb hj hk,bigint_DivMod_dI h0,fq_exact h0 hd,cond_true]
theorem field_over.ps {j k:Nat} {a b:Int} (ha:Bd j a) (hb:Bd k b) (hj:j≤LIM) (hk:k≤LIM) (h0:b≠0) (hd:b∣a):field_over.pre (dI a).1 (dI a).2 (dI b).1 (dI b).2=true:=isSome_of (field_over.os ha hb hj hk h0 hd)
theorem field_over.es {j k:Nat} {a b:Int} (ha:Bd j a) (hb:Bd k b) (hj:j≤LIM) (hk:k≤LIM) (h0:b≠0) (hd:b∣a):field_over (dI a).1 (dI a).2 (dI b).1 (dI b).2=dI (a/b):=getD_of (field_over.os ha hb hj hk h0 hd)
end
theorem field_over.ok:SOK Tryz.prog 194 (field_over.sp field_over field_over.pre):=by
 refine sok_of (E:=⟨[(198,bigint_DivMod.sp bigint_DivMod bigint_DivMod.pre)],[],[]⟩) (L:=[]) ⟨(specs_cons bigint_DivMod.ok specs_nil),inl_nil,mixed_ok,lps_nil⟩ 60 Tryz.func194 (by decide) rfl no_loops fun vs bl v bl' h=> ?_
 unfold field_over.sp at h
 split at h
 ·rename_i A3 A2 AD AC
  simp only [Option.some.injEq,Prod.mk.injEq] at h
  obtain ⟨hp,rfl,rfl⟩:=h
  have hr:=field_over.run bigint_DivMod bigint_DivMod.pre A3 A2 AD AC
  rw [field_over.nat] at hr
  obtain ⟨r,h2⟩:=Option.isSome_iff_exists.1 (hp:(field_over.o A3 A2 AD AC).isSome=true)
  have h3:field_over A3 A2 AD AC=r:=by unfold field_over; rw [h2]; rfl
  have h4:field_over.K bigint_DivMod bigint_DivMod.pre A3 A2 AD AC some=some r:=h2
  rw [h4,Option.bind_some] at hr
  rw [h3]
  exact ⟨hr,by simp [okV,Nat.blt],clo_spec 8 _ (by kernel_rfl),told_blk (by kernel_rfl)⟩
 ·cases h
section
variable {R:Type} (C3:Bool→ByteArray→(Int)) (CP:TF5 (Bool×ByteArray)) (CU:TF5 Bool) (BZ:Int→(Bool×ByteArray)) (BX:Int→Bool) (BW:Bool→ByteArray→(Bool×ByteArray)) (CR:Bool→ByteArray→Bool→ByteArray→(Bool×ByteArray)) (CQ:Bool→ByteArray→Bool→ByteArray→Bool) (A3:Bool) (A2:ByteArray) (A6:Bool) (A5:ByteArray) (A4:Bool) (A9:ByteArray) (A8:Bool) (A7:ByteArray) (AD:Bool) (AC:ByteArray)
def field_lowest.K (k:TY5→Option R):Option R:=
 let t0:=CU A3 A2 A6 A5 A4 A9 A8 A7 AD AC
 bif t0 then
 let t1:=C3 AD AC
 bif decide (t1<0) then
 let t2:=BX 1
 bif t2 then
 let t3:=CP A3 A2 A6 A5 A4 A9 A8 A7 AD AC
 let t4:=BW t3.1 t3.2
 let t5:=BZ 1
 bif t4.1==t5.1&&t4.2.toList==t5.2.toList then k (A3,A2,A6,A5,A4,A9,A8,A7,AD,AC) else
 let t6:=CQ A3 A2 t4.1 t4.2
 bif t6 then
 let t7:=CQ A6 A5 t4.1 t4.2
 bif t7 then
 let t8:=CQ A4 A9 t4.1 t4.2
 bif t8 then
 let t9:=CQ A8 A7 t4.1 t4.2
 bif t9 then
 let t10:=CQ AD AC t4.1 t4.2
 bif t10 then
 let t11:=CR A3 A2 t4.1 t4.2
 let t12:=CR A6 A5 t4.1 t4.2
 let t13:=CR A4 A9 t4.1 t4.2
 let t14:=CR A8 A7 t4.1 t4.2
 let t15:=CR AD AC t4.1 t4.2
 k (t11.1,t11.2,t12.1,t12.2,t13.1,t13.2,t14.1,t14.2,t15.1,t15.2) else none else none else none else none else none else none else
 let t16:=BX 1
 bif t16 then
 let t17:=CP A3 A2 A6 A5 A4 A9 A8 A7 AD AC
 let t18:=BZ 1
 bif t17.1==t18.1&&t17.2.toList==t18.2.toList then k (A3,A2,A6,A5,A4,A9,A8,A7,AD,AC) else
 let t19:=CQ A3 A2 t17.1 t17.2
 bif t19 then
 let t20:=CQ A6 A5 t17.1 t17.2
 bif t20 then
 let t21:=CQ A4 A9 t17.1 t17.2
 bif t21 then
 let t22:=CQ A8 A7 t17.1 t17.2
 bif t22 then
 let t23:=CQ AD AC t17.1 t17.2
 bif t23 then
 let t24:=CR A3 A2 t17.1 t17.2
 let t25:=CR A6 A5 t17.1 t17.2
 let t26:=CR A4 A9 t17.1 t17.2
 let t27:=CR A8 A7 t17.1 t17.2
 let t28:=CR AD AC t17.1 t17.2
 k (t24.1,t24.2,t25.1,t25.2,t26.1,t26.2,t27.1,t27.2,t28.1,t28.2) else none else none else none else none else none else none else none
theorem field_lowest.run:xfn Tryz.prog ⟨[(158,bigint_Sign.sp C3),(159,field_common.sp CP CU),(160,bigint_Of.sp BZ BX),(193,bigint_Neg.sp BW),(194,field_over.sp CR CQ)],[],[]⟩ [] 60 Tryz.f164 [.agg ⟨[.bool A3,.string A2,.bool A6,.string A5,.bool A4,.string A9,.bool A8,.string A7]⟩,.agg ⟨[.bool AD,.string AC]⟩] []=field_lowest.K C3 CP CU BZ BX BW CR CQ A3 A2 A6 A5 A4 A9 A8 A7 AD AC (fun r=>some (.agg ⟨[.bool r.1,.string r.2.1,.bool r.2.2.1,.string r.2.2.2.1,.bool r.2.2.2.2.1,.string r.2.2.2.2.2.1,.bool r.2.2.2.2.2.2.1,.string r.2.2.2.2.2.2.2.1,.bool r.2.2.2.2.2.2.2.2.1,.string r.2.2.2.2.2.2.2.2.2]⟩,[])):=by kernel_rfl
def field_lowest.o:Option (TY5):=field_lowest.K bigint_Sign field_common field_common.pre bigint_Of bigint_Of.pre bigint_Neg field_over field_over.pre A3 A2 A6 A5 A4 A9 A8 A7 AD AC some
def field_lowest.pre:Bool:=(field_lowest.o A3 A2 A6 A5 A4 A9 A8 A7 AD AC).isSome
def field_lowest:TY5:=(field_lowest.o A3 A2 A6 A5 A4 A9 A8 A7 AD AC).getD default
theorem field_lowest.nat (k:TY5→Option R):field_lowest.K C3 CP CU BZ BX BW CR CQ A3 A2 A6 A5 A4 A9 A8 A7 AD AC k=(field_lowest.K C3 CP CU BZ BX BW CR CQ A3 A2 A6 A5 A4 A9 A8 A7 AD AC some).bind k:=by
 simp only [field_lowest.K,bcond,Option.bind_some,Option.bind_none]
theorem field_lowest.os {k:Nat} {q:Q} (h:q.Bd k) (hk:k≤LIM) (hd:q.d≠0):
  field_lowest.o (dI q.c0).1 (dI q.c0).2 (dI q.c1).1 (dI q.c1).2 (dI q.c2).1 (dI q.c2).2 (dI q.c3).1 (dI q.c3).2 (dI q.d).1 (dI q.d).2=some (C5 (low q)):=by
 have hn:=sg_ne hd
 obtain ⟨d,d0,d1,d2,d3⟩:=sg_dvd q
 have hg:Bd k (sg_ q):=by unfold sg_; split; exact h.g.neg; exact h.g
 have c1:=field_common.ps h.c0 h.c1 h.c2 h.c3 h.d hk
 have c2:=field_common.es h.c0 h.c1 h.c2 h.c3 h.d hk
 have o0:=field_over.es h.c0 hg hk hk hn d0
 have o1:=field_over.es h.c1 hg hk hk hn d1
 have o2:=field_over.es h.c2 hg hk hk hn d2
 have o3:=field_over.es h.c3 hg hk hk hn d3
 have o4:=field_over.es h.d hg hk hk hn d
 have p0:=field_over.ps h.c0 hg hk hk hn d0
 have p1:=field_over.ps h.c1 hg hk hk hn d1
 have p2:=field_over.ps h.c2 hg hk hk hn d2
 have p3:=field_over.ps h.c3 hg hk hk hn d3
 have p4:=field_over.ps h.d hg hk hk hn d
 have hl:low q=⟨q.c0/sg_ q,q.c1/sg_ q,q.c2/sg_ q,q.c3/sg_ q,q.d/sg_ q⟩:=rfl
 have hgq:gg q.c0 q.c1 q.c2 q.c3 q.d=q.g:=rfl
 have h1:sg_ q=1→C5 q=C5 (low q):=fun e=>by rw [hl,e]; simp
 by_cases hneg:q.d<0
 ·have es:sgn q.d<0:=by simp [sgn,hneg]
  have hs:sg_ q= -q.g:=by unfold sg_; rw [if_pos hneg]
  simp only [field_lowest.o,field_lowest.K,c1,c2,hgq,bigint_Sign_dI,dtrue es,of_pre1,of_dI,bigint_Neg_dI,←hs,eq_dI,cond_true,o0,o1,o2,o3,o4,p0,p1,p2,p3,p4]
  by_cases e:sg_ q=1
  ·rw [e]; exact congrArg some (h1 e)
  ·rw [beq_of e]; rfl
 ·have es:¬sgn q.d<0:=by unfold sgn; rw [if_neg hneg]; split<;>decide
  have hs:sg_ q=q.g:=by unfold sg_; rw [if_neg hneg]
  simp only [field_lowest.o,field_lowest.K,c1,c2,hgq,bigint_Sign_dI,dfalse es,of_pre1,of_dI,←hs,eq_dI,cond_true,cond_false,o0,o1,o2,o3,o4,p0,p1,p2,p3,p4]
  by_cases e:sg_ q=1
  ·rw [e]; exact congrArg some (h1 e)
  ·rw [beq_of e]; rfl
theorem field_lowest.ps {k:Nat} {q:Q} (h:q.Bd k) (hk:k≤LIM) (hd:q.d≠0):
 field_lowest.pre (dI q.c0).1 (dI q.c0).2 (dI q.c1).1 (dI q.c1).2 (dI q.c2).1 (dI q.c2).2 (dI q.c3).1 (dI q.c3).2 (dI q.d).1 (dI q.d).2=true:=isSome_of (field_lowest.os h hk hd)
theorem field_lowest.es {k:Nat} {q:Q} (h:q.Bd k) (hk:k≤LIM) (hd:q.d≠0):
 field_lowest (dI q.c0).1 (dI q.c0).2 (dI q.c1).1 (dI q.c1).2 (dI q.c2).1 (dI q.c2).2 (dI q.c3).1 (dI q.c3).2 (dI q.d).1 (dI q.d).2=C5 (low q):=getD_of (field_lowest.os h hk hd)
end
theorem field_lowest.ok:SOK Tryz.prog 164 (field_lowest.sp field_lowest field_lowest.pre):=by
 refine sok_of (E:=⟨[(158,bigint_Sign.sp bigint_Sign),(159,field_common.sp field_common field_common.pre),(160,bigint_Of.sp bigint_Of bigint_Of.pre),(193,bigint_Neg.sp bigint_Neg),(194,field_over.sp field_over field_over.pre)],[],[]⟩) (L:=[]) ⟨(specs_cons bigint_Sign.ok (specs_cons field_common.ok (specs_cons bigint_Of.ok (specs_cons bigint_Neg.ok (specs_cons field_over.ok specs_nil))))),inl_nil,mixed_ok,lps_nil⟩ 60 Tryz.func164 (by decide) rfl no_loops fun vs bl v bl' h=> ?_
 unfold field_lowest.sp at h
 split at h
 ·rename_i A3 A2 A6 A5 A4 A9 A8 A7 AD AC
  simp only [Option.some.injEq,Prod.mk.injEq] at h
  obtain ⟨hp,rfl,rfl⟩:=h
  have hr:=field_lowest.run bigint_Sign field_common field_common.pre bigint_Of bigint_Of.pre bigint_Neg field_over field_over.pre A3 A2 A6 A5 A4 A9 A8 A7 AD AC
  rw [field_lowest.nat] at hr
  obtain ⟨r,h2⟩:=Option.isSome_iff_exists.1 (hp:(field_lowest.o A3 A2 A6 A5 A4 A9 A8 A7 AD AC).isSome=true)
  have h3:field_lowest A3 A2 A6 A5 A4 A9 A8 A7 AD AC=r:=by unfold field_lowest; rw [h2]; rfl
  have h4:field_lowest.K bigint_Sign field_common field_common.pre bigint_Of bigint_Of.pre bigint_Neg field_over field_over.pre A3 A2 A6 A5 A4 A9 A8 A7 AD AC some=some r:=h2
  rw [h4,Option.bind_some] at hr
  rw [h3]
  exact ⟨hr,by simp [okV,Nat.blt],clo_spec 8 _ (by kernel_rfl),told_blk (by kernel_rfl)⟩
 ·cases h
section
variable {R:Type} (E1:Bool→ByteArray→(Bool)) (C3:Bool→ByteArray→(Int)) (CP:TF5 (Bool×ByteArray)) (CU:TF5 Bool) (BZ:Int→(Bool×ByteArray)) (BX:Int→Bool) (A3:Bool) (A2:ByteArray) (A6:Bool) (A5:ByteArray) (A4:Bool) (A9:ByteArray) (A8:Bool) (A7:ByteArray) (AB:Bool) (AA:ByteArray)
def field_Valid.K (k:(Bool)→Option R):Option R:=
 let t0:=E1 A3 A2
 bif !t0 then k (false) else
 let t1:=E1 A6 A5
 bif !t1 then k (false) else
 let t2:=E1 A4 A9
 bif !t2 then k (false) else
 let t3:=E1 A8 A7
 bif !t3 then k (false) else
 let t4:=E1 AB AA
 bif t4 then
 let t5:=C3 AB AA
 bif decide (t5>0) then
 let t6:=CU A3 A2 A6 A5 A4 A9 A8 A7 AB AA
 bif t6 then
 let t7:=BX 1
 bif t7 then
 let t8:=CP A3 A2 A6 A5 A4 A9 A8 A7 AB AA
 let t9:=BZ 1
 k (t8.1==t9.1&&t8.2.toList==t9.2.toList) else none else none else k (false) else k (false)
theorem field_Valid.run:xfn Tryz.prog ⟨[(157,bigint_Valid.sp E1),(158,bigint_Sign.sp C3),(159,field_common.sp CP CU),(160,bigint_Of.sp BZ BX)],[],[]⟩ [] 60 Tryz.f109 [.agg ⟨[.bool A3,.string A2,.bool A6,.string A5,.bool A4,.string A9,.bool A8,.string A7,.bool AB,.string AA]⟩] []=field_Valid.K E1 C3 CP CU BZ BX A3 A2 A6 A5 A4 A9 A8 A7 AB AA (fun r=>some (.bool r,[])):=by kernel_rfl
def field_Valid.o:Option (Bool):=field_Valid.K bigint_Valid bigint_Sign field_common field_common.pre bigint_Of bigint_Of.pre A3 A2 A6 A5 A4 A9 A8 A7 AB AA some
def field_Valid.pre:Bool:=(field_Valid.o A3 A2 A6 A5 A4 A9 A8 A7 AB AA).isSome
def field_Valid:Bool:=(field_Valid.o A3 A2 A6 A5 A4 A9 A8 A7 AB AA).getD default
theorem field_Valid.nat (k:(Bool)→Option R):field_Valid.K E1 C3 CP CU BZ BX A3 A2 A6 A5 A4 A9 A8 A7 AB AA k=(field_Valid.K E1 C3 CP CU BZ BX A3 A2 A6 A5 A4 A9 A8 A7 AB AA some).bind k:=by
 simp only [field_Valid.K,bcond,Option.bind_some,Option.bind_none]
theorem field_Valid.os {k:Nat} {q:Q} (h:q.Bd k) (hk:k≤LIM):
  field_Valid.o (dI q.c0).1 (dI q.c0).2 (dI q.c1).1 (dI q.c1).2 (dI q.c2).1 (dI q.c2).2 (dI q.c3).1 (dI q.c3).2 (dI q.d).1 (dI q.d).2=some q.ok:=by
 have c1:=field_common.ps h.c0 h.c1 h.c2 h.c3 h.d hk
 have c2:=field_common.es h.c0 h.c1 h.c2 h.c3 h.d hk
 have hgq:gg q.c0 q.c1 q.c2 q.c3 q.d=q.g:=rfl
 simp only [field_Valid.o,field_Valid.K,bigint_Valid_dI,bigint_Sign_dI,c1,c2,hgq,of_pre1,of_dI,eq_dI,cond_true,cond_false,Bool.not_true]
 by_cases hp:0<q.d
 ·have:sgn q.d>0:=by unfold sgn; rw [if_neg (by omega),if_neg (by omega)]; decide
  simp [dtrue this,Q.ok,hp]
 ·have:¬sgn q.d>0:=by unfold sgn; split; decide; rw [if_pos (by omega)]; decide
  simp [dfalse this,Q.ok,hp]
theorem field_Valid.ps {k:Nat} {q:Q} (h:q.Bd k) (hk:k≤LIM):
 field_Valid.pre (dI q.c0).1 (dI q.c0).2 (dI q.c1).1 (dI q.c1).2 (dI q.c2).1 (dI q.c2).2 (dI q.c3).1 (dI q.c3).2 (dI q.d).1 (dI q.d).2=true:=isSome_of (field_Valid.os h hk)
theorem field_Valid.es {k:Nat} {q:Q} (h:q.Bd k) (hk:k≤LIM):
 field_Valid (dI q.c0).1 (dI q.c0).2 (dI q.c1).1 (dI q.c1).2 (dI q.c2).1 (dI q.c2).2 (dI q.c3).1 (dI q.c3).2 (dI q.d).1 (dI q.d).2=q.ok:=getD_of (field_Valid.os h hk)
end
theorem field_Valid.ok:SOK Tryz.prog 109 (field_Valid.sp field_Valid field_Valid.pre):=by
 refine sok_of (E:=⟨[(157,bigint_Valid.sp bigint_Valid),(158,bigint_Sign.sp bigint_Sign),(159,field_common.sp field_common field_common.pre),(160,bigint_Of.sp bigint_Of bigint_Of.pre)],[],[]⟩) (L:=[]) ⟨(specs_cons bigint_Valid.ok (specs_cons bigint_Sign.ok (specs_cons field_common.ok (specs_cons bigint_Of.ok specs_nil)))),inl_nil,mixed_ok,lps_nil⟩ 60 Tryz.func109 (by decide) rfl no_loops fun vs bl v bl' h=> ?_
 unfold field_Valid.sp at h
 split at h
 ·rename_i A3 A2 A6 A5 A4 A9 A8 A7 AB AA
  simp only [Option.some.injEq,Prod.mk.injEq] at h
  obtain ⟨hp,rfl,rfl⟩:=h
  have hr:=field_Valid.run bigint_Valid bigint_Sign field_common field_common.pre bigint_Of bigint_Of.pre A3 A2 A6 A5 A4 A9 A8 A7 AB AA
  rw [field_Valid.nat] at hr
  obtain ⟨r,h2⟩:=Option.isSome_iff_exists.1 (hp:(field_Valid.o A3 A2 A6 A5 A4 A9 A8 A7 AB AA).isSome=true)
  have h3:field_Valid A3 A2 A6 A5 A4 A9 A8 A7 AB AA=r:=by unfold field_Valid; rw [h2]; rfl
  have h4:field_Valid.K bigint_Valid bigint_Sign field_common field_common.pre bigint_Of bigint_Of.pre A3 A2 A6 A5 A4 A9 A8 A7 AB AA some=some r:=h2
  rw [h4,Option.bind_some] at hr
  rw [h3]
  exact ⟨hr,by simp [okV,Nat.blt],clo_spec 8 _ (by kernel_rfl),told_blk (by kernel_rfl)⟩
 ·cases h
section
variable {R:Type} (BZ:Int→(Bool×ByteArray)) (BX:Int→Bool) (a0:Int)
def field_Of.K (k:TY5→Option R):Option R:=
 let t0:=BX a0
 bif t0 then
 let t1:=BX 1
 bif t1 then
 let t2:=BZ a0
 let t3:=BZ 1
 k (t2.1,t2.2,false,{data:= #[]},false,{data:= #[]},false,{data:= #[]},t3.1,t3.2) else none else none
theorem field_Of.run:xfn Tryz.prog ⟨[(160,bigint_Of.sp BZ BX)],[],[]⟩ [] 60 Tryz.f114 [.int .i64 a0] []=field_Of.K BZ BX a0 (fun r=>some (.agg ⟨[.bool r.1,.string r.2.1,.bool r.2.2.1,.string r.2.2.2.1,.bool r.2.2.2.2.1,.string r.2.2.2.2.2.1,.bool r.2.2.2.2.2.2.1,.string r.2.2.2.2.2.2.2.1,.bool r.2.2.2.2.2.2.2.2.1,.string r.2.2.2.2.2.2.2.2.2]⟩,[])):=by kernel_rfl
def field_Of.o (a0:Int):Option (TY5):=field_Of.K bigint_Of bigint_Of.pre a0 some
def field_Of.pre (a0:Int):Bool:=(field_Of.o a0).isSome
def field_Of (a0:Int):TY5:=(field_Of.o a0).getD default
theorem field_Of.nat (k:TY5→Option R):field_Of.K BZ BX a0 k=(field_Of.K BZ BX a0 some).bind k:=by
 simp only [field_Of.K,bcond,Option.bind_some,Option.bind_none]
theorem field_Of.os {n:Int} (h: -9223372036854775808≤n) (h':n≤9223372036854775807):field_Of.o n=some (C5 ⟨n,0,0,0,1⟩):=by
 simp only [field_Of.o,field_Of.K,of_pre h h',of_pre1,of_dI,cond_true,C5,dI_zero]
theorem field_Of.ps {n:Int} (h: -9223372036854775808≤n) (h':n≤9223372036854775807):field_Of.pre n=true:=isSome_of (field_Of.os h h')
theorem field_Of.es {n:Int} (h: -9223372036854775808≤n) (h':n≤9223372036854775807):field_Of n=C5 ⟨n,0,0,0,1⟩:=getD_of (field_Of.os h h')
end
theorem field_Of.ok:SOK Tryz.prog 114 (field_Of.sp field_Of field_Of.pre):=by
 refine sok_of (E:=⟨[(160,bigint_Of.sp bigint_Of bigint_Of.pre)],[],[]⟩) (L:=[]) ⟨(specs_cons bigint_Of.ok specs_nil),inl_nil,mixed_ok,lps_nil⟩ 60 Tryz.func114 (by decide) rfl no_loops fun vs bl v bl' h=> ?_
 unfold field_Of.sp at h
 split at h
 ·rename_i a0
  simp only [Option.some.injEq,Prod.mk.injEq] at h
  obtain ⟨hp,rfl,rfl⟩:=h
  have hr:=field_Of.run bigint_Of bigint_Of.pre a0
  rw [field_Of.nat] at hr
  obtain ⟨r,h2⟩:=Option.isSome_iff_exists.1 (hp:(field_Of.o a0).isSome=true)
  have h3:field_Of a0=r:=by unfold field_Of; rw [h2]; rfl
  have h4:field_Of.K bigint_Of bigint_Of.pre a0 some=some r:=h2
  rw [h4,Option.bind_some] at hr
  rw [h3]
  exact ⟨hr,by simp [okV,Nat.blt],clo_spec 8 _ (by kernel_rfl),told_blk (by kernel_rfl)⟩
 ·cases h
end Go.Proofs.YtpejalpgficopaaGreatDoor.G
end
section
namespace Go.Proofs.YtpejalpgficopaaGreatDoor.G
set_option maxRecDepth 100000
open Go Go.Proofs RX
def prS (A3:Bool) (A2:ByteArray) (A6:Bool) (A5:ByteArray) (A4:Bool) (A9:ByteArray) (A8:Bool) (A7:ByteArray) (AB:Bool) (AA:ByteArray) (AD:Bool) (AC:ByteArray) (AH:Bool) (AG:ByteArray) (AJ:Bool) (AI:ByteArray) (B7:Bool) (B6:ByteArray) (AF:Bool) (AE:ByteArray):PrS:=⟨false,(⟨#[]⟩:ByteArray),false,(⟨#[]⟩:ByteArray),false,(⟨#[]⟩:ByteArray),false,(⟨#[]⟩:ByteArray),false,(⟨#[]⟩:ByteArray),false,(⟨#[]⟩:ByteArray),false,(⟨#[]⟩:ByteArray),false,(⟨#[]⟩:ByteArray),false,(⟨#[]⟩:ByteArray),A3,A2,A6,A5,A4,A9,A8,A7,A3,A2,A6,A5,A4,A9,A8,A7,AB,AA,AD,AC,AH,AG,AJ,AI,B7,B6,AF,AE⟩
theorem product.run (fM:Bool→ByteArray→Bool→ByteArray→(Bool×ByteArray)) (pM:Bool→ByteArray→Bool→ByteArray→Bool) (fL:TF5 T10) (pL:TF5 Bool) (A3:Bool) (A2:ByteArray) (A6:Bool) (A5:ByteArray) (A4:Bool) (A9:ByteArray) (A8:Bool) (A7:ByteArray) (AB:Bool) (AA:ByteArray) (AD:Bool) (AC:ByteArray) (AH:Bool) (AG:ByteArray) (AJ:Bool) (AI:ByteArray) (B7:Bool) (B6:ByteArray) (AF:Bool) (AE:ByteArray):
 xfn Tryz.prog ⟨[(163,bigint_Mul.sp fM pM),(164,field_lowest.sp fL pL)],[],[]⟩ [(0,pro.t)] 60 Tryz.f161 [.agg ⟨[.bool A3,.string A2,.bool A6,.string A5,.bool A4,.string A9,.bool A8,.string A7,.bool AB,.string AA]⟩,.agg ⟨[.bool AD,.string AC,.bool AH,.string AG,.bool AJ,.string AI,.bool B7,.string B6,.bool AF,.string AE]⟩] []= bif pro.need (prS A3 A2 A6 A5 A4 A9 A8 A7 AB AA AD AC AH AG AJ AI B7 B6 AF AE) then bif pM AB AA AF AE then bif pL (prS A3 A2 A6 A5 A4 A9 A8 A7 AB AA AD AC AH AG AJ AI B7 B6 AF AE).fin.cn0 (prS A3 A2 A6 A5 A4 A9 A8 A7 AB AA AD AC AH AG AJ AI B7 B6 AF AE).fin.cs0 (prS A3 A2 A6 A5 A4 A9 A8 A7 AB AA AD AC AH AG AJ AI B7 B6 AF AE).fin.cn1 (prS A3 A2 A6 A5 A4 A9 A8 A7 AB AA AD AC AH AG AJ AI B7 B6 AF AE).fin.cs1 (prS A3 A2 A6 A5 A4 A9 A8 A7 AB AA AD AC AH AG AJ AI B7 B6 AF AE).fin.cn2 (prS A3 A2 A6 A5 A4 A9 A8 A7 AB AA AD AC AH AG AJ AI B7 B6 AF AE).fin.cs2 (prS A3 A2 A6 A5 A4 A9 A8 A7 AB AA AD AC AH AG AJ AI B7 B6 AF AE).fin.cn3 (prS A3 A2 A6 A5 A4 A9 A8 A7 AB AA AD AC AH AG AJ AI B7 B6 AF AE).fin.cs3 (fM AB AA AF AE).1 (fM AB AA AF AE).2 then some (.agg ⟨[.bool (fL (prS A3 A2 A6 A5 A4 A9 A8 A7 AB AA AD AC AH AG AJ AI B7 B6 AF AE).fin.cn0 (prS A3 A2 A6 A5 A4 A9 A8 A7 AB AA AD AC AH AG AJ AI B7 B6 AF AE).fin.cs0 (prS A3 A2 A6 A5 A4 A9 A8 A7 AB AA AD AC AH AG AJ AI B7 B6 AF AE).fin.cn1 (prS A3 A2 A6 A5 A4 A9 A8 A7 AB AA AD AC AH AG AJ AI B7 B6 AF AE).fin.cs1 (prS A3 A2 A6 A5 A4 A9 A8 A7 AB AA AD AC AH AG AJ AI B7 B6 AF AE).fin.cn2 (prS A3 A2 A6 A5 A4 A9 A8 A7 AB AA AD AC AH AG AJ AI B7 B6 AF AE).fin.cs2 (prS A3 A2 A6 A5 A4 A9 A8 A7 AB AA AD AC AH AG AJ AI B7 B6 AF AE).fin.cn3 (prS A3 A2 A6 A5 A4 A9 A8 A7 AB AA AD AC AH AG AJ AI B7 B6 AF AE).fin.cs3 (fM AB AA AF AE).1 (fM AB AA AF AE).2).1,.string (fL (prS A3 A2 A6 A5 A4 A9 A8 A7 AB AA AD AC AH AG AJ AI B7 B6 AF AE).fin.cn0 (prS A3 A2 A6 A5 A4 A9 A8 A7 AB AA AD AC AH AG AJ AI B7 B6 AF AE).fin.cs0 (prS A3 A2 A6 A5 A4 A9 A8 A7 AB AA AD AC AH AG AJ AI B7 B6 AF AE).fin.cn1 (prS A3 A2 A6 A5 A4 A9 A8 A7 AB AA AD AC AH AG AJ AI B7 B6 AF AE).fin.cs1 (prS A3 A2 A6 A5 A4 A9 A8 A7 AB AA AD AC AH AG AJ AI B7 B6 AF AE).fin.cn2 (prS A3 A2 A6 A5 A4 A9 A8 A7 AB AA AD AC AH AG AJ AI B7 B6 AF AE).fin.cs2 (prS A3 A2 A6 A5 A4 A9 A8 A7 AB AA AD AC AH AG AJ AI B7 B6 AF AE).fin.cn3 (prS A3 A2 A6 A5 A4 A9 A8 A7 AB AA AD AC AH AG AJ AI B7 B6 AF AE).fin.cs3 (fM AB AA AF AE).1 (fM AB AA AF AE).2).2.1,.bool (fL (prS A3 A2 A6 A5 A4 A9 A8 A7 AB AA AD AC AH AG AJ AI B7 B6 AF AE).fin.cn0 (prS A3 A2 A6 A5 A4 A9 A8 A7 AB AA AD AC AH AG AJ AI B7 B6 AF AE).fin.cs0 (prS A3 A2 A6 A5 A4 A9 A8 A7 AB AA AD AC AH AG AJ AI B7 B6 AF AE).fin.cn1 (prS A3 A2 A6 A5 A4 A9 A8 A7 AB AA AD AC AH AG AJ AI B7 B6 AF AE).fin.cs1 (prS A3 A2 A6 A5 A4 A9 A8 A7 AB AA AD AC AH AG AJ AI B7 B6 AF AE).fin.cn2 (prS A3 A2 A6 A5 A4 A9 A8 A7 AB AA AD AC AH AG AJ AI B7 B6 AF AE).fin.cs2 (prS A3 A2 A6 A5 A4 A9 A8 A7 AB AA AD AC AH AG AJ AI B7 B6 AF AE).fin.cn3 (prS A3 A2 A6 A5 A4 A9 A8 A7 AB AA AD AC AH AG AJ AI B7 B6 AF AE).fin.cs3 (fM AB AA AF AE).1 (fM AB AA AF AE).2).2.2.1,.string (fL (prS A3 A2 A6 A5 A4 A9 A8 A7 AB AA AD AC AH AG AJ AI B7 B6 AF AE).fin.cn0 (prS A3 A2 A6 A5 A4 A9 A8 A7 AB AA AD AC AH AG AJ AI B7 B6 AF AE).fin.cs0 (prS A3 A2 A6 A5 A4 A9 A8 A7 AB AA AD AC AH AG AJ AI B7 B6 AF AE).fin.cn1 (prS A3 A2 A6 A5 A4 A9 A8 A7 AB AA AD AC AH AG AJ AI B7 B6 AF AE).fin.cs1 (prS A3 A2 A6 A5 A4 A9 A8 A7 AB AA AD AC AH AG AJ AI B7 B6 AF AE).fin.cn2 (prS A3 A2 A6 A5 A4 A9 A8 A7 AB AA AD AC AH AG AJ AI B7 B6 AF AE).fin.cs2 (prS A3 A2 A6 A5 A4 A9 A8 A7 AB AA AD AC AH AG AJ AI B7 B6 AF AE).fin.cn3 (prS A3 A2 A6 A5 A4 A9 A8 A7 AB AA AD AC AH AG AJ AI B7 B6 AF AE).fin.cs3 (fM AB AA AF AE).1 (fM AB AA AF AE).2).2.2.2.1,.bool (fL (prS A3 A2 A6 A5 A4 A9 A8 A7 AB AA AD AC AH AG AJ AI B7 B6 AF AE).fin.cn0 (prS A3 A2 A6 A5 A4 A9 A8 A7 AB AA AD AC AH AG AJ AI B7 B6 AF AE).fin.cs0 (prS A3 A2 A6 A5 A4 A9 A8 A7 AB AA AD AC AH AG AJ AI B7 B6 AF AE).fin.cn1 (prS A3 A2 A6 A5 A4 A9 A8 A7 AB AA AD AC AH AG AJ AI B7 B6 AF AE).fin.cs1 (prS A3 A2 A6 A5 A4 A9 A8 A7 AB AA AD AC AH AG AJ AI B7 B6 AF AE).fin.cn2 (prS A3 A2 A6 A5 A4 A9 A8 A7 AB AA AD AC AH AG AJ AI B7 B6 AF AE).fin.cs2 (prS A3 A2 A6 A5 A4 A9 A8 A7 AB AA AD AC AH AG AJ AI B7 B6 AF AE).fin.cn3 (prS A3 A2 A6 A5 A4 A9 A8 A7 AB AA AD AC AH AG AJ AI B7 B6 AF AE).fin.cs3 (fM AB AA AF AE).1 (fM AB AA AF AE).2).2.2.2.2.1,.string (fL (prS A3 A2 A6 A5 A4 A9 A8 A7 AB AA AD AC AH AG AJ AI B7 B6 AF AE).fin.cn0 (prS A3 A2 A6 A5 A4 A9 A8 A7 AB AA AD AC AH AG AJ AI B7 B6 AF AE).fin.cs0 (prS A3 A2 A6 A5 A4 A9 A8 A7 AB AA AD AC AH AG AJ AI B7 B6 AF AE).fin.cn1 (prS A3 A2 A6 A5 A4 A9 A8 A7 AB AA AD AC AH AG AJ AI B7 B6 AF AE).fin.cs1 (prS A3 A2 A6 A5 A4 A9 A8 A7 AB AA AD AC AH AG AJ AI B7 B6 AF AE).fin.cn2 (prS A3 A2 A6 A5 A4 A9 A8 A7 AB AA AD AC AH AG AJ AI B7 B6 AF AE).fin.cs2 (prS A3 A2 A6 A5 A4 A9 A8 A7 AB AA AD AC AH AG AJ AI B7 B6 AF AE).fin.cn3 (prS A3 A2 A6 A5 A4 A9 A8 A7 AB AA AD AC AH AG AJ AI B7 B6 AF AE).fin.cs3 (fM AB AA AF AE).1 (fM AB AA AF AE).2).2.2.2.2.2.1,.bool (fL (prS A3 A2 A6 A5 A4 A9 A8 A7 AB AA AD AC AH AG AJ AI B7 B6 AF AE).fin.cn0 (prS A3 A2 A6 A5 A4 A9 A8 A7 AB AA AD AC AH AG AJ AI B7 B6 AF AE).fin.cs0 (prS A3 A2 A6 A5 A4 A9 A8 A7 AB AA AD AC AH AG AJ AI B7 B6 AF AE).fin.cn1 (prS A3 A2 A6 A5 A4 A9 A8 A7 AB AA AD AC AH AG AJ AI B7 B6 AF AE).fin.cs1 (prS A3 A2 A6 A5 A4 A9 A8 A7 AB AA AD AC AH AG AJ AI B7 B6 AF AE).fin.cn2 (prS A3 A2 A6 A5 A4 A9 A8 A7 AB AA AD AC AH AG AJ AI B7 B6 AF AE).fin.cs2 (prS A3 A2 A6 A5 A4 A9 A8 A7 AB AA AD AC AH AG AJ AI B7 B6 AF AE).fin.cn3 (prS A3 A2 A6 A5 A4 A9 A8 A7 AB AA AD AC AH AG AJ AI B7 B6 AF AE).fin.cs3 (fM AB AA AF AE).1 (fM AB AA AF AE).2).2.2.2.2.2.2.1,.string (fL (prS A3 A2 A6 A5 A4 A9 A8 A7 AB AA AD AC AH AG AJ AI B7 B6 AF AE).fin.cn0 (prS A3 A2 A6 A5 A4 A9 A8 A7 AB AA AD AC AH AG AJ AI B7 B6 AF AE).fin.cs0 (prS A3 A2 A6 A5 A4 A9 A8 A7 AB AA AD AC AH AG AJ AI B7 B6 AF AE).fin.cn1 (prS A3 A2 A6 A5 A4 A9 A8 A7 AB AA AD AC AH AG AJ AI B7 B6 AF AE).fin.cs1 (prS A3 A2 A6 A5 A4 A9 A8 A7 AB AA AD AC AH AG AJ AI B7 B6 AF AE).fin.cn2 (prS A3 A2 A6 A5 A4 A9 A8 A7 AB AA AD AC AH AG AJ AI B7 B6 AF AE).fin.cs2 (prS A3 A2 A6 A5 A4 A9 A8 A7 AB AA AD AC AH AG AJ AI B7 B6 AF AE).fin.cn3 (prS A3 A2 A6 A5 A4 A9 A8 A7 AB AA AD AC AH AG AJ AI B7 B6 AF AE).fin.cs3 (fM AB AA AF AE).1 (fM AB AA AF AE).2).2.2.2.2.2.2.2.1,.bool (fL (prS A3 A2 A6 A5 A4 A9 A8 A7 AB AA AD AC AH AG AJ AI B7 B6 AF AE).fin.cn0 (prS A3 A2 A6 A5 A4 A9 A8 A7 AB AA AD AC AH AG AJ AI B7 B6 AF AE).fin.cs0 (prS A3 A2 A6 A5 A4 A9 A8 A7 AB AA AD AC AH AG AJ AI B7 B6 AF AE).fin.cn1 (prS A3 A2 A6 A5 A4 A9 A8 A7 AB AA AD AC AH AG AJ AI B7 B6 AF AE).fin.cs1 (prS A3 A2 A6 A5 A4 A9 A8 A7 AB AA AD AC AH AG AJ AI B7 B6 AF AE).fin.cn2 (prS A3 A2 A6 A5 A4 A9 A8 A7 AB AA AD AC AH AG AJ AI B7 B6 AF AE).fin.cs2 (prS A3 A2 A6 A5 A4 A9 A8 A7 AB AA AD AC AH AG AJ AI B7 B6 AF AE).fin.cn3 (prS A3 A2 A6 A5 A4 A9 A8 A7 AB AA AD AC AH AG AJ AI B7 B6 AF AE).fin.cs3 (fM AB AA AF AE).1 (fM AB AA AF AE).2).2.2.2.2.2.2.2.2.1,.string (fL (prS A3 A2 A6 A5 A4 A9 A8 A7 AB AA AD AC AH AG AJ AI B7 B6 AF AE).fin.cn0 (prS A3 A2 A6 A5 A4 A9 A8 A7 AB AA AD AC AH AG AJ AI B7 B6 AF AE).fin.cs0 (prS A3 A2 A6 A5 A4 A9 A8 A7 AB AA AD AC AH AG AJ AI B7 B6 AF AE).fin.cn1 (prS A3 A2 A6 A5 A4 A9 A8 A7 AB AA AD AC AH AG AJ AI B7 B6 AF AE).fin.cs1 (prS A3 A2 A6 A5 A4 A9 A8 A7 AB AA AD AC AH AG AJ AI B7 B6 AF AE).fin.cn2 (prS A3 A2 A6 A5 A4 A9 A8 A7 AB AA AD AC AH AG AJ AI B7 B6 AF AE).fin.cs2 (prS A3 A2 A6 A5 A4 A9 A8 A7 AB AA AD AC AH AG AJ AI B7 B6 AF AE).fin.cn3 (prS A3 A2 A6 A5 A4 A9 A8 A7 AB AA AD AC AH AG AJ AI B7 B6 AF AE).fin.cs3 (fM AB AA AF AE).1 (fM AB AA AF AE).2).2.2.2.2.2.2.2.2.2]⟩,[]) else none else none else none:=by kernel_rfl
section
variable (A3:Bool) (A2:ByteArray) (A6:Bool) (A5:ByteArray) (A4:Bool) (A9:ByteArray) (A8:Bool) (A7:ByteArray) (AB:Bool) (AA:ByteArray) (AD:Bool) (AC:ByteArray) (AH:Bool) (AG:ByteArray) (AJ:Bool) (AI:ByteArray) (B7:Bool) (B6:ByteArray) (AF:Bool) (AE:ByteArray)
def field_product:T10:=field_lowest (prS A3 A2 A6 A5 A4 A9 A8 A7 AB AA AD AC AH AG AJ AI B7 B6 AF AE).fin.cn0 (prS A3 A2 A6 A5 A4 A9 A8 A7 AB AA AD AC AH AG AJ AI B7 B6 AF AE).fin.cs0 (prS A3 A2 A6 A5 A4 A9 A8 A7 AB AA AD AC AH AG AJ AI B7 B6 AF AE).fin.cn1 (prS A3 A2 A6 A5 A4 A9 A8 A7 AB AA AD AC AH AG AJ AI B7 B6 AF AE).fin.cs1 (prS A3 A2 A6 A5 A4 A9 A8 A7 AB AA AD AC AH AG AJ AI B7 B6 AF AE).fin.cn2 (prS A3 A2 A6 A5 A4 A9 A8 A7 AB AA AD AC AH AG AJ AI B7 B6 AF AE).fin.cs2 (prS A3 A2 A6 A5 A4 A9 A8 A7 AB AA AD AC AH AG AJ AI B7 B6 AF AE).fin.cn3 (prS A3 A2 A6 A5 A4 A9 A8 A7 AB AA AD AC AH AG AJ AI B7 B6 AF AE).fin.cs3 (bigint_Mul AB AA AF AE).1 (bigint_Mul AB AA AF AE).2
def field_product.pre:Bool:=pro.need (prS A3 A2 A6 A5 A4 A9 A8 A7 AB AA AD AC AH AG AJ AI B7 B6 AF AE)&&(bigint_Mul.pre AB AA AF AE&&field_lowest.pre (prS A3 A2 A6 A5 A4 A9 A8 A7 AB AA AD AC AH AG AJ AI B7 B6 AF AE).fin.cn0 (prS A3 A2 A6 A5 A4 A9 A8 A7 AB AA AD AC AH AG AJ AI B7 B6 AF AE).fin.cs0 (prS A3 A2 A6 A5 A4 A9 A8 A7 AB AA AD AC AH AG AJ AI B7 B6 AF AE).fin.cn1 (prS A3 A2 A6 A5 A4 A9 A8 A7 AB AA AD AC AH AG AJ AI B7 B6 AF AE).fin.cs1 (prS A3 A2 A6 A5 A4 A9 A8 A7 AB AA AD AC AH AG AJ AI B7 B6 AF AE).fin.cn2 (prS A3 A2 A6 A5 A4 A9 A8 A7 AB AA AD AC AH AG AJ AI B7 B6 AF AE).fin.cs2 (prS A3 A2 A6 A5 A4 A9 A8 A7 AB AA AD AC AH AG AJ AI B7 B6 AF AE).fin.cn3 (prS A3 A2 A6 A5 A4 A9 A8 A7 AB AA AD AC AH AG AJ AI B7 B6 AF AE).fin.cs3 (bigint_Mul AB AA AF AE).1 (bigint_Mul AB AA AF AE).2)
end
theorem field_product.ok:SOK Tryz.prog 161 (field_product.sp field_product field_product.pre):=by
 refine sok_of (E:=⟨[(163,bigint_Mul.sp bigint_Mul bigint_Mul.pre),(164,field_lowest.sp field_lowest field_lowest.pre)],[],[]⟩) (L:=[(0,pro.t)]) ⟨specs_cons bigint_Mul.ok (specs_cons field_lowest.ok specs_nil),inl_nil,mixed_ok,lps_nil⟩ 60 Tryz.func161 (by decide) rfl (one_loop rfl rfl pro.lok) fun vs bl v bl' h=> ?_
 unfold field_product.sp at h
 split at h
 ·rename_i A3 A2 A6 A5 A4 A9 A8 A7 AB AA AD AC AH AG AJ AI B7 B6 AF AE
  simp only [Option.some.injEq,Prod.mk.injEq] at h
  obtain ⟨hp,rfl,rfl⟩:=h
  unfold field_product.pre at hp
  simp only [Bool.and_eq_true] at hp
  refine ⟨(product.run bigint_Mul bigint_Mul.pre field_lowest field_lowest.pre A3 A2 A6 A5 A4 A9 A8 A7 AB AA AD AC AH AG AJ AI B7 B6 AF AE).trans (((ct hp.1).trans (ct hp.2.1)).trans (ct hp.2.2)),by simp [okV,Nat.blt],clo_spec 8 _ (by kernel_rfl),told_blk (by kernel_rfl)⟩
 ·cases h
def qprod (x y:Q):Q:=⟨0+1*(x.c0*y.c0)+2*(x.c1*y.c1)+3*(x.c2*y.c2)+6*(x.c3*y.c3),0+1*(x.c0*y.c1)+1*(x.c1*y.c0)+3*(x.c2*y.c3)+3*(x.c3*y.c2),0+1*(x.c0*y.c2)+2*(x.c1*y.c3)+1*(x.c2*y.c0)+2*(x.c3*y.c1),0+1*(x.c0*y.c3)+1*(x.c1*y.c2)+1*(x.c2*y.c1)+1*(x.c3*y.c0),x.d*y.d⟩
theorem part_bd {j k:Nat} {c q a b:Int} {m:Nat} (hc:Bd m c) (hq:Few6 q) (ha:Bd j a) (hb:Bd k b) (hm:1+(j+k)≤m):Bd (m+1) (c+q*(a*b)):=hc.add (((few_bd hq).mul (ha.mul hb)).mono hm)
theorem qprod_bd {j k:Nat} {x y:Q} (hx:x.Bd j) (hy:y.Bd k):(qprod x y).Bd (j+k+5):=by
 have f1:Few6 1:= .inl rfl
 have f2:Few6 2:= .inr (.inl rfl)
 have f3:Few6 3:= .inr (.inr (.inl rfl))
 have f6:Few6 6:= .inr (.inr (.inr rfl))
 have z:Bd (1+(j+k)) 0:=Bd.zero _
 have four:∀ {q0 q1 q2 q3 a0 b0 a1 b1 a2 b2 a3 b3:Int},Few6 q0→Few6 q1→Few6 q2→Few6 q3→Bd j a0→Bd k b0→Bd j a1→Bd k b1→Bd j a2→Bd k b2→Bd j a3→Bd k b3→Bd (j+k+5) (0+q0*(a0*b0)+q1*(a1*b1)+q2*(a2*b2)+q3*(a3*b3)):=fun h0 h1 h2 h3 a0 b0 a1 b1 a2 b2 a3 b3=>
  (part_bd (part_bd (part_bd (part_bd z h0 a0 b0 (by omega)) h1 a1 b1 (by omega)) h2 a2 b2 (by omega)) h3 a3 b3 (by omega)).mono (by omega)
 exact ⟨four f1 f2 f3 f6 hx.c0 hy.c0 hx.c1 hy.c1 hx.c2 hy.c2 hx.c3 hy.c3,four f1 f1 f3 f3 hx.c0 hy.c1 hx.c1 hy.c0 hx.c2 hy.c3 hx.c3 hy.c2,four f1 f2 f1 f2 hx.c0 hy.c2 hx.c1 hy.c3 hx.c2 hy.c0 hx.c3 hy.c1,four f1 f1 f1 f1 hx.c0 hy.c3 hx.c1 hy.c2 hx.c2 hy.c1 hx.c3 hy.c0,(hx.d.mul hy.d).mono (by omega)⟩
section
variable {j k:Nat} {x y:Q}
theorem prS_fin:(prS (dI x.c0).1 (dI x.c0).2 (dI x.c1).1 (dI x.c1).2 (dI x.c2).1 (dI x.c2).2 (dI x.c3).1 (dI x.c3).2 (dI x.d).1 (dI x.d).2 (dI y.c0).1 (dI y.c0).2 (dI y.c1).1 (dI y.c1).2 (dI y.c2).1 (dI y.c2).2 (dI y.c3).1 (dI y.c3).2 (dI y.d).1 (dI y.d).2).fin.cn0=(dI (qprod x y).c0).1∧(prS (dI x.c0).1 (dI x.c0).2 (dI x.c1).1 (dI x.c1).2 (dI x.c2).1 (dI x.c2).2 (dI x.c3).1 (dI x.c3).2 (dI x.d).1 (dI x.d).2 (dI y.c0).1 (dI y.c0).2 (dI y.c1).1 (dI y.c1).2 (dI y.c2).1 (dI y.c2).2 (dI y.c3).1 (dI y.c3).2 (dI y.d).1 (dI y.d).2).fin.cs0=(dI (qprod x y).c0).2∧(prS (dI x.c0).1 (dI x.c0).2 (dI x.c1).1 (dI x.c1).2 (dI x.c2).1 (dI x.c2).2 (dI x.c3).1 (dI x.c3).2 (dI x.d).1 (dI x.d).2 (dI y.c0).1 (dI y.c0).2 (dI y.c1).1 (dI y.c1).2 (dI y.c2).1 (dI y.c2).2 (dI y.c3).1 (dI y.c3).2 (dI y.d).1 (dI y.d).2).fin.cn1=(dI (qprod x y).c1).1∧(prS (dI x.c0).1 (dI x.c0).2 (dI x.c1).1 (dI x.c1).2 (dI x.c2).1 (dI x.c2).2 (dI x.c3).1 (dI x.c3).2 (dI x.d).1 (dI x.d).2 (dI y.c0).1 (dI y.c0).2 (dI y.c1).1 (dI y.c1).2 (dI y.c2).1 (dI y.c2).2 (dI y.c3).1 (dI y.c3).2 (dI y.d).1 (dI y.d).2).fin.cs1=(dI (qprod x y).c1).2∧(prS (dI x.c0).1 (dI x.c0).2 (dI x.c1).1 (dI x.c1).2 (dI x.c2).1 (dI x.c2).2 (dI x.c3).1 (dI x.c3).2 (dI x.d).1 (dI x.d).2 (dI y.c0).1 (dI y.c0).2 (dI y.c1).1 (dI y.c1).2 (dI y.c2).1 (dI y.c2).2 (dI y.c3).1 (dI y.c3).2 (dI y.d).1 (dI y.d).2).fin.cn2=(dI (qprod x y).c2).1∧(prS (dI x.c0).1 (dI x.c0).2 (dI x.c1).1 (dI x.c1).2 (dI x.c2).1 (dI x.c2).2 (dI x.c3).1 (dI x.c3).2 (dI x.d).1 (dI x.d).2 (dI y.c0).1 (dI y.c0).2 (dI y.c1).1 (dI y.c1).2 (dI y.c2).1 (dI y.c2).2 (dI y.c3).1 (dI y.c3).2 (dI y.d).1 (dI y.d).2).fin.cs2=(dI (qprod x y).c2).2∧(prS (dI x.c0).1 (dI x.c0).2 (dI x.c1).1 (dI x.c1).2 (dI x.c2).1 (dI x.c2).2 (dI x.c3).1 (dI x.c3).2 (dI x.d).1 (dI x.d).2 (dI y.c0).1 (dI y.c0).2 (dI y.c1).1 (dI y.c1).2 (dI y.c2).1 (dI y.c2).2 (dI y.c3).1 (dI y.c3).2 (dI y.d).1 (dI y.d).2).fin.cn3=(dI (qprod x y).c3).1∧(prS (dI x.c0).1 (dI x.c0).2 (dI x.c1).1 (dI x.c1).2 (dI x.c2).1 (dI x.c2).2 (dI x.c3).1 (dI x.c3).2 (dI x.d).1 (dI x.d).2 (dI y.c0).1 (dI y.c0).2 (dI y.c1).1 (dI y.c1).2 (dI y.c2).1 (dI y.c2).2 (dI y.c3).1 (dI y.c3).2 (dI y.d).1 (dI y.d).2).fin.cs3=(dI (qprod x y).c3).2:=by
 have h0:vl false (⟨#[]⟩:ByteArray)=0:=rfl
 simp only [PrS.fin,PrS.wc,prS,vl_dI,h0,qprod,and_self]
theorem field_product.ps (hx:x.Bd j) (hy:y.Bd k) (hj:j≤PRM) (hk:k≤PRM) (hd:x.d*y.d≠0):field_product.pre (dI x.c0).1 (dI x.c0).2 (dI x.c1).1 (dI x.c1).2 (dI x.c2).1 (dI x.c2).2 (dI x.c3).1 (dI x.c3).2 (dI x.d).1 (dI x.d).2 (dI y.c0).1 (dI y.c0).2 (dI y.c1).1 (dI y.c1).2 (dI y.c2).1 (dI y.c2).2 (dI y.c3).1 (dI y.c3).2 (dI y.d).1 (dI y.d).2=true:=by
 obtain ⟨e0,e1,e2,e3,e4,e5,e6,e7⟩:=prS_fin (x:=x) (y:=y)
 have hq:=qprod_bd hx hy
 unfold field_product.pre
 rw [e0,e1,e2,e3,e4,e5,e6,e7,bigint_Mul_dI,mul_pre hx.d hy.d (by unfold LIM; unfold PRM at hj; omega) (by unfold LIM; unfold PRM at hk; omega)]
 have hl:=field_lowest.ps (q:=qprod x y) hq (by unfold LIM; unfold PRM at hj hk; omega) hd
 have hl2:field_lowest.pre (dI (qprod x y).c0).1 (dI (qprod x y).c0).2 (dI (qprod x y).c1).1 (dI (qprod x y).c1).2 (dI (qprod x y).c2).1 (dI (qprod x y).c2).2 (dI (qprod x y).c3).1 (dI (qprod x y).c3).2 (dI (x.d*y.d)).1 (dI (x.d*y.d)).2=true:=hl
 rw [hl2,Bool.and_true,Bool.and_true]
 have z:∀k,szB k false (⟨#[]⟩:ByteArray)=true:=fun k=>by simp [szB,vld,vldL]; exact Nat.zero_le _
 simp only [pro.need,prS,Bool.and_eq_true,z]
 exact ⟨⟨⟨⟨⟨⟨⟨⟨⟨⟨⟨szB_dI (hx.c0.mono hj),szB_dI (hx.c1.mono hj)⟩,szB_dI (hx.c2.mono hj)⟩,szB_dI (hx.c3.mono hj)⟩,szB_dI (hy.c0.mono hk)⟩,szB_dI (hy.c1.mono hk)⟩,szB_dI (hy.c2.mono hk)⟩,szB_dI (hy.c3.mono hk)⟩,trivial⟩,trivial⟩,trivial⟩,trivial⟩
theorem field_product.es (hx:x.Bd j) (hy:y.Bd k) (hj:j≤PRM) (hk:k≤PRM) (hd:x.d*y.d≠0):field_product (dI x.c0).1 (dI x.c0).2 (dI x.c1).1 (dI x.c1).2 (dI x.c2).1 (dI x.c2).2 (dI x.c3).1 (dI x.c3).2 (dI x.d).1 (dI x.d).2 (dI y.c0).1 (dI y.c0).2 (dI y.c1).1 (dI y.c1).2 (dI y.c2).1 (dI y.c2).2 (dI y.c3).1 (dI y.c3).2 (dI y.d).1 (dI y.d).2=C5 (low (qprod x y)):=by
 obtain ⟨e0,e1,e2,e3,e4,e5,e6,e7⟩:=prS_fin (x:=x) (y:=y)
 unfold field_product
 rw [e0,e1,e2,e3,e4,e5,e6,e7,bigint_Mul_dI]
 exact field_lowest.es (q:=qprod x y) (qprod_bd hx hy) (by unfold LIM; unfold PRM at hj hk; omega) hd
end
end Go.Proofs.YtpejalpgficopaaGreatDoor.G
end
section
namespace Go.Proofs.YtpejalpgficopaaGreatDoor.G
set_option maxRecDepth 100000
open Go Go.Proofs RX
def qneg (x:Q):Q:=⟨-x.c0,-x.c1,-x.c2,-x.c3,x.d⟩
def qsum (x y:Q):Q:=⟨x.c0*y.d+y.c0*x.d,x.c1*y.d+y.c1*x.d,x.c2*y.d+y.c2*x.d,x.c3*y.d+y.c3*x.d,x.d*y.d⟩
def qadd (x y:Q):Q:=low (qsum x y)
def qsub (x y:Q):Q:=qadd x (qneg y)
def qmul (x y:Q):Q:=low (qprod x y)
def qof (n:Int):Q:=⟨n,0,0,0,1⟩
theorem qof_ok (n:Int):(qof n).ok=true:=by
 have:(qof n).g=1:=by
  show gg n 0 0 0 1=1
  unfold gg
  simp
 unfold Q.ok
 rw [this]
 rfl
theorem Q.ok_d {q:Q} (h:q.ok=true):0<q.d∧q.g=1:=by simpa [Q.ok] using h
theorem qneg_g (x:Q):(qneg x).g=x.g:=by
 show gg (-x.c0) (-x.c1) (-x.c2) (-x.c3) x.d=gg x.c0 x.c1 x.c2 x.c3 x.d
 unfold gg
 simp only [Int.gcd_neg]
theorem qneg_ok (x:Q):(qneg x).ok=x.ok:=by
 unfold Q.ok
 rw [qneg_g]
 rfl
theorem qneg_bd {k:Nat} {x:Q} (h:x.Bd k):(qneg x).Bd k:=⟨h.c0.neg,h.c1.neg,h.c2.neg,h.c3.neg,h.d⟩
theorem qsum_bd {j k:Nat} {x y:Q} (hx:x.Bd j) (hy:y.Bd k):(qsum x y).Bd (j+k+1):=
 ⟨(hx.c0.mul hy.d).add ((hy.c0.mul hx.d).mono (by omega)),(hx.c1.mul hy.d).add ((hy.c1.mul hx.d).mono (by omega)),(hx.c2.mul hy.d).add ((hy.c2.mul hx.d).mono (by omega)),(hx.c3.mul hy.d).add ((hy.c3.mul hx.d).mono (by omega)),(hx.d.mul hy.d).mono (by omega)⟩
theorem dd_ne {x y:Q} (hx:x.ok=true) (hy:y.ok=true):x.d*y.d≠0:=by
 have h1:=(Q.ok_d hx).1
 have h2:=(Q.ok_d hy).1
 exact Int.mul_ne_zero (by omega) (by omega)
theorem qadd_ok {x y:Q} (hx:x.ok=true) (hy:y.ok=true):(qadd x y).ok=true:=low_ok (q:=qsum x y) (dd_ne hx hy)
theorem qmul_ok {x y:Q} (hx:x.ok=true) (hy:y.ok=true):(qmul x y).ok=true:=low_ok (q:=qprod x y) (dd_ne hx hy)
theorem qadd_bd {j k:Nat} {x y:Q} (hx:x.Bd j) (hy:y.Bd k) (ox:x.ok=true) (oy:y.ok=true):(qadd x y).Bd (j+k+1):=low_bd (qsum_bd hx hy) (dd_ne ox oy)
theorem qmul_bd {j k:Nat} {x y:Q} (hx:x.Bd j) (hy:y.Bd k) (ox:x.ok=true) (oy:y.ok=true):(qmul x y).Bd (j+k+5):=low_bd (qprod_bd hx hy) (dd_ne ox oy)
theorem C5_zero:C5 Q.zero=(false,(⟨#[]⟩:ByteArray),false,⟨#[]⟩,false,⟨#[]⟩,false,⟨#[]⟩,false,⟨#[]⟩):=by simp only [C5,Q.zero,dI_zero]
def mix (a b s:Int):Int:=if a=b∨b=0 then a else if a=0 then b else a*s
def sg2 (a b:Int):Int:=mix (sgn a) (sgn b) (sgn (a*a-2*(b*b)))
def sgz (c0 c1 c2 c3:Int):Int:=
 let p:=sg2 c0 c1; let q:=sg2 c2 c3
 if p=q∨q=0∨p=0 then mix p q 0 else
 mix p q (sg2 (1*(c0*c0)+2*(c1*c1)-(3*(c2*c2)+6*(c3*c3))) (2*(c0*c1)-6*(c2*c3)))
def Q.sg (x:Q):Int:=sgz x.c0 x.c1 x.c2 x.c3
theorem sgn_cases (z:Int):sgn z= -1∨sgn z=0∨sgn z=1:=by unfold sgn; split; exact .inl rfl; split; exact .inr (.inl rfl); exact .inr (.inr rfl)
theorem mix_cases {a b s:Int} (ha:a= -1∨a=0∨a=1) (hb:b= -1∨b=0∨b=1) (hs:s= -1∨s=0∨s=1):mix a b s= -1∨mix a b s=0∨mix a b s=1:=by
 rcases ha with rfl|rfl|rfl<;>rcases hb with rfl|rfl|rfl<;>rcases hs with rfl|rfl|rfl<;>decide
theorem sg2_cases (a b:Int):sg2 a b= -1∨sg2 a b=0∨sg2 a b=1:=mix_cases (sgn_cases _) (sgn_cases _) (sgn_cases _)
theorem zero_ok:Q.zero.ok=false:=rfl
theorem zero_bd (k:Nat):Q.zero.Bd k:=⟨Bd.zero k,Bd.zero k,Bd.zero k,Bd.zero k,Bd.zero k⟩
def cj2 (x:Q):Q:=⟨x.c0,x.c1,-x.c2,-x.c3,x.d⟩
def cj1 (x:Q):Q:=⟨x.c0,-x.c1,x.c2,-x.c3,x.d⟩
theorem cj2_g (x:Q):(cj2 x).g=x.g:=by
 show gg x.c0 x.c1 (-x.c2) (-x.c3) x.d=gg x.c0 x.c1 x.c2 x.c3 x.d
 unfold gg
 simp only [Int.gcd_neg]
theorem cj1_g (x:Q):(cj1 x).g=x.g:=by
 show gg x.c0 (-x.c1) x.c2 (-x.c3) x.d=gg x.c0 x.c1 x.c2 x.c3 x.d
 unfold gg
 simp only [Int.gcd_neg]
theorem cj2_ok (x:Q):(cj2 x).ok=x.ok:=by unfold Q.ok; rw [cj2_g]; rfl
theorem cj1_ok (x:Q):(cj1 x).ok=x.ok:=by unfold Q.ok; rw [cj1_g]; rfl
theorem cj2_bd {k:Nat} {x:Q} (h:x.Bd k):(cj2 x).Bd k:=⟨h.c0,h.c1,h.c2.neg,h.c3.neg,h.d⟩
theorem cj1_bd {k:Nat} {x:Q} (h:x.Bd k):(cj1 x).Bd k:=⟨h.c0,h.c1.neg,h.c2,h.c3.neg,h.d⟩
def qtwo (y:Q):Q:=qmul y (cj2 y)
def qone (y:Q):Q:=qmul (qtwo y) (cj1 (qtwo y))
def qinv (y:Q):Q:=low ⟨(qone y).d,0,0,0,(qone y).c0⟩
def qdiv (x y:Q):Q:=qmul (qmul x (cj2 y)) (qmul (cj1 (qtwo y)) (qinv y))
theorem root2:∀(n:Nat) (a b:Int),a.natAbs+b.natAbs≤n→a*a=2*(b*b)→a=0∧b=0
  |0,a,b,h,_=>by omega
  | n + 1,a,b,h,e=>by
    have ha:a%2=0:=by
      have h1:(a*a)%2=0:=by rw [e]; omega
      rw [Int.mul_emod] at h1
      rcases Int.emod_two_eq a with h2|h2<;>rw [h2] at h1<;>omega
    obtain ⟨c,rfl⟩:=Int.dvd_of_emod_eq_zero ha
    have e2:b*b=2*(c*c):=by
      have:2*c*(2*c)=4*(c*c):=by grind
      omega
    by_cases hz:c=0∧b=0
    · obtain ⟨rfl,rfl⟩:=hz; exact ⟨rfl,rfl⟩
    · by_cases hc:c=0
      · subst hc
        have:b*b=0:=by omega
        exact ⟨rfl,(Int.mul_eq_zero.1 this).elim id id⟩
      · have:=root2 n b c (by omega) e2
        exact absurd this.2 hc
theorem sq_mod3 (a:Int):(a*a)%3=0∨(a*a)%3=1:=by
 rw [Int.mul_emod]
 have h0:=Int.emod_nonneg a (show (3:Int)≠0 by decide)
 have h1:=Int.emod_lt_of_pos a (show (0:Int)<3 by decide)
 have:a%3=0∨a%3=1∨a%3=2:=by omega
 rcases this with h|h|h<;>rw [h]<;>decide
theorem sq_mod3_zero {a:Int} (h:(a*a)%3=0):a%3=0:=by
 rw [Int.mul_emod] at h
 have h0:=Int.emod_nonneg a (show (3:Int)≠0 by decide)
 have h1:=Int.emod_lt_of_pos a (show (0:Int)<3 by decide)
 have:a%3=0∨a%3=1∨a%3=2:=by omega
 rcases this with h'|h'|h'<;>rw [h'] at h<;>omega
theorem mod3_both {a b:Int} (h:(a*a+2*(b*b))%3=0) (h':(a*b)%3=0):a%3=0∧b%3=0:=by
 have ha:=sq_mod3 a
 have hb:=sq_mod3 b
 have hab:((a*a)*(b*b))%3=0:=by
  have:(a*a)*(b*b)=(a*b)*(a*b):=by grind
  rw [this,Int.mul_emod,h']; rfl
 rw [Int.mul_emod] at hab
 rcases ha with ha|ha<;>rcases hb with hb|hb
 ·exact ⟨sq_mod3_zero ha,sq_mod3_zero hb⟩
 ·omega
 ·omega
 ·rw [ha,hb] at hab; omega
theorem root3:∀(n:Nat) (a b c d:Int),a.natAbs+b.natAbs+c.natAbs+d.natAbs≤n→a*a+2*(b*b)=3*(c*c)+6*(d*d)→a*b=3*(c*d)→a=0∧b=0∧c=0∧d=0
 |0,a,b,c,d,h,_,_=>by omega
 | n +1,a,b,c,d,h,e1,e2=>by
  have hab:=mod3_both (a:=a) (b:=b) (by omega) (by omega)
  obtain ⟨a',rfl⟩:=Int.dvd_of_emod_eq_zero hab.1
  obtain ⟨b',rfl⟩:=Int.dvd_of_emod_eq_zero hab.2
  have q1:3*a'*(3*a')=9*(a'*a'):=by grind
  have q2:3*b'*(3*b')=9*(b'*b'):=by grind
  have q3:3*a'*(3*b')=9*(a'*b'):=by grind
  have hcd:=mod3_both (a:=c) (b:=d) (by omega) (by omega)
  obtain ⟨c',rfl⟩:=Int.dvd_of_emod_eq_zero hcd.1
  obtain ⟨d',rfl⟩:=Int.dvd_of_emod_eq_zero hcd.2
  have q4:3*c'*(3*c')=9*(c'*c'):=by grind
  have q5:3*d'*(3*d')=9*(d'*d'):=by grind
  have q6:3*c'*(3*d')=9*(c'*d'):=by grind
  by_cases hz:a'=0∧b'=0∧c'=0∧d'=0
  ·obtain ⟨rfl,rfl,rfl,rfl⟩:=hz; exact ⟨rfl,rfl,rfl,rfl⟩
  ·have:=root3 n a' b' c' d' (by omega) (by omega) (by omega)
   exact absurd this hz
theorem low_c0 {q:Q} (hd:q.d≠0) (h:q.c0≠0):(low q).c0≠0:=by
 obtain ⟨_,⟨c,hc⟩,_⟩:=sg_dvd q
 have hn:=sg_ne hd
 show q.c0/sg_ q≠0
 rw [hc,Int.mul_ediv_cancel_left _ hn]
 rintro rfl
 rw [Int.mul_zero] at hc
 exact h hc
theorem low_parts {q:Q} (hd:q.d≠0):∃m:Int,m≠0∧q.c0=m*(low q).c0∧q.c1=m*(low q).c1∧q.c2=m*(low q).c2∧q.c3=m*(low q).c3∧q.d=m*(low q).d:=by
 obtain ⟨d,d0,d1,d2,d3⟩:=sg_dvd q
 have hn:=sg_ne hd
 have f:∀ {x:Int},sg_ q∣x→x=sg_ q*(x/sg_ q):=fun h=>(Int.mul_ediv_cancel' h).symm
 exact ⟨sg_ q,hn,f d0,f d1,f d2,f d3,f d⟩
theorem qtwo_parts {y:Q} (oy:y.ok=true):∃m:Int,m≠0∧y.c0*y.c0+2*(y.c1*y.c1)-3*(y.c2*y.c2)-6*(y.c3*y.c3)=m*(qtwo y).c0∧2*(y.c0*y.c1)-6*(y.c2*y.c3)=m*(qtwo y).c1∧(qtwo y).c2=0∧(qtwo y).c3=0:=by
 have hd:=dd_ne oy (show (cj2 y).ok=true from by rw [cj2_ok,oy])
 obtain ⟨m,hm,h0,h1,h2,h3,_⟩:=low_parts (q:=qprod y (cj2 y)) hd
 refine ⟨m,hm,?_,?_,?_,?_⟩
 ·show _=m*(low (qprod y (cj2 y))).c0
  rw [←h0]
  simp only [qprod,cj2,Int.mul_neg]
  omega
 ·show _=m*(low (qprod y (cj2 y))).c1
  rw [←h1]
  simp only [qprod,cj2,Int.mul_neg]
  rw [Int.mul_comm y.c1 y.c0,Int.mul_comm y.c3 y.c2]
  omega
 ·have e:(qprod y (cj2 y)).c2=0:=by
   simp only [qprod,cj2,Int.mul_neg]
   rw [Int.mul_comm y.c2 y.c0,Int.mul_comm y.c3 y.c1]
   omega
  rw [e] at h2
  rcases Int.mul_eq_zero.1 h2.symm with h|h
  ·exact absurd h hm
  ·exact h
 ·have e:(qprod y (cj2 y)).c3=0:=by
   simp only [qprod,cj2,Int.mul_neg]
   rw [Int.mul_comm y.c3 y.c0,Int.mul_comm y.c2 y.c1]
   omega
  rw [e] at h3
  rcases Int.mul_eq_zero.1 h3.symm with h|h
  ·exact absurd h hm
  ·exact h
theorem qtwo_ok {y:Q} (oy:y.ok=true):(qtwo y).ok=true:=qmul_ok oy (by rw [cj2_ok,oy])
theorem qone_ok {y:Q} (oy:y.ok=true):(qone y).ok=true:=qmul_ok (qtwo_ok oy) (by rw [cj1_ok,qtwo_ok oy])
theorem qone_ne {y:Q} (oy:y.ok=true) (hy:¬(y.c0=0∧y.c1=0∧y.c2=0∧y.c3=0)):(qone y).c0≠0:=by
 obtain ⟨m,hm,h0,h1,h2,h3⟩:=qtwo_parts oy
 have ot:=qtwo_ok oy
 refine low_c0 (q:=qprod (qtwo y) (cj1 (qtwo y))) (dd_ne ot (by rw [cj1_ok,ot])) fun hz=> ?_
 have e:(qtwo y).c0*(qtwo y).c0=2*((qtwo y).c1*(qtwo y).c1):=by
  simp only [qprod,cj1,h2,h3,Int.mul_neg,Int.mul_zero,Int.zero_mul,Int.neg_zero] at hz
  omega
 obtain ⟨z0,z1⟩:=root2 _ _ _ (Nat.le_refl _) e
 rw [z0,Int.mul_zero] at h0
 rw [z1,Int.mul_zero] at h1
 exact hy (root3 _ _ _ _ _ (Nat.le_refl _) (by omega) (by omega))
theorem qinv_ok {y:Q} (oy:y.ok=true) (hy:¬(y.c0=0∧y.c1=0∧y.c2=0∧y.c3=0)):(qinv y).ok=true:=low_ok (q:=⟨(qone y).d,0,0,0,(qone y).c0⟩) (qone_ne oy hy)
theorem qdiv_ok {x y:Q} (ox:x.ok=true) (oy:y.ok=true) (hy:¬(y.c0=0∧y.c1=0∧y.c2=0∧y.c3=0)):(qdiv x y).ok=true:=
 qmul_ok (qmul_ok ox (by rw [cj2_ok,oy])) (qmul_ok (by rw [cj1_ok,qtwo_ok oy]) (qinv_ok oy hy))
end Go.Proofs.YtpejalpgficopaaGreatDoor.G
end
section
namespace Go.Proofs.YtpejalpgficopaaGreatDoor.G
set_option maxRecDepth 100000
open Go
class Sg (R:Type) extends Add R,Mul R,Neg R,Sub R where
 o:R
 s:R→Int
 q_sc:∀x,s x= -1∨s x=0∨s x=1
 q_sz:∀x,s x=0→x=o
 q_so:s o=0
 q_sn:∀x,s (-x)= -s x
 q_sm:∀x y,s (x*y)=s x*s y
 q_sa:∀x y,s x=1→s y=1→s (x+y)=1
 q_add_o:∀x,x+o=x
 q_o_add:∀x,o+x=x
 q_sub_eq:∀x y:R,x-y=x+ -y
 q_neg_add:∀x y:R,-(x+y)= -x+ -y
section
variable {R:Type} [Sg R]
open Sg
theorem sgC (x:R):s x= -1∨s x=0∨s x=1:=q_sc x
theorem sgZ (x:R) (h:s x=0):x=o:=q_sz x h
theorem sgO:s (o:R)=0:=q_so
theorem sgN (x:R):s (-x)= -s x:=q_sn x
theorem sgM (x y:R):s (x*y)=s x*s y:=q_sm x y
theorem sgA (x y:R) (h:s x=1) (h':s y=1):s (x+y)=1:=q_sa x y h h'
theorem add_o (x:R):x+o=x:=q_add_o x
theorem o_add (x:R):o+x=x:=q_o_add x
theorem sub_eq (x y:R):x-y=x+ -y:=Sg.q_sub_eq (R:=R) x y
theorem neg_add (x y:R): -(x+y)= -x+ -y:=Sg.q_neg_add (R:=R) x y
end
structure Ri (R:Type) [Sg R] (r:R):Prop where
 i1:∀a b c d:R,(a+c)*(a+c)-r*((b+d)*(b+d))=(a*a-r*(b*b))+(c*c-r*(d*d))+((a*c-r*(b*d))+(a*c-r*(b*d)))
 i2:∀a b c d:R,(a*c-r*(b*d))*(a*c+r*(b*d))=a*a*(c*c-r*(d*d))+r*(d*d)*(a*a-r*(b*b))
 i3:∀x y:R,(x-y)+(x+y)=x+x
 i4:∀a b c d:R,(a*c+r*(b*d))*(a*c+r*(b*d))-r*((a*d+b*c)*(a*d+b*c))=(a*a-r*(b*b))*(c*c-r*(d*d))
 i6:∀a b:R,-a* -a-r*(-b* -b)=a*a-r*(b*b)
 i8:∀a b c d:R,(r*(b*d)-a*c)*(a*c+r*(b*d))=r*(b*b)* -(c*c-r*(d*d))+c*c* -(a*a-r*(b*b))
 i9:∀x y:R,(y-x)+(x+y)=y+y
 i10:∀a b c d:R,(a*d-b*c)*(a*d+b*c)*r=a*a* -(c*c-r*(d*d))+c*c*(a*a-r*(b*b))
 i11:∀a b c d:R,a*c+r*(b*d)=c*a+r*(d*b)∧a*d+b*c=c*b+d*a
 i12:∀a b c d:R,-((a+c)*(a+c)-r*((b+d)*(b+d)))= -(a*a-r*(b*b))+ -(c*c-r*(d*d))+((r*(b*d)-a*c)+(r*(b*d)-a*c))
 i13:∀x y:R,x+ -(x+y)= -y∧y+ -(x+y)= -x
 i14:∀x y:R,x+y=y+x
section
variable {R:Type} [Sg R]
open Sg
theorem sg_pos_cases {x:Int} (h:x= -1∨x=0∨x=1) (h0:0≤x):x=0∨x=1:=by omega
theorem s_add_of {x y:R} (hx:0≤s x) (hy:0≤s y) (h:s x=1∨s y=1):s (x+y)=1:=by
 rcases sg_pos_cases (sgC x) hx with h1|h1<;>rcases sg_pos_cases (sgC y) hy with h2|h2
 ·omega
 ·rw [sgZ x h1,o_add]; exact h2
 ·rw [sgZ y h2,add_o]; exact h1
 ·exact sgA x y h1 h2
theorem s_sq_nonneg (x:R):0≤s (x*x):=by
 rw [sgM]; rcases sgC x with h|h|h<;>rw [h]<;>decide
theorem s_sq {x:R} (h:s x≠0):s (x*x)=1:=by
 rw [sgM]; rcases sgC x with h1|h1|h1<;>rw [h1]
 ·rfl
 ·exact absurd h1 h
 ·rfl
theorem s_twice (x:R):s (x+x)=s x:=by
 rcases sgC x with h|h|h
 ·have h1:s (-x)=1:=by rw [sgN,h]; rfl
  have h2:=sgA _ _ h1 h1
  rw [←neg_add,sgN] at h2
  omega
 ·rw [sgZ x h,add_o]
 ·rw [sgA _ _ h h,h]
theorem s_both {p q x:R} (h:s (p*q)=1) (e:p+q=x+x):s p=s x∧s q=s x:=by
 rw [sgM] at h
 have h1:=s_twice x
 rw [←e] at h1
 rcases sgC p with hp|hp|hp<;>rcases sgC q with hq|hq|hq<;>rw [hp,hq] at h<;>first|exact absurd h (by decide)|skip
 ·have h2:=sgA (-p) (-q) (by rw [sgN,hp]; rfl) (by rw [sgN,hq]; rfl)
  rw [←neg_add,sgN] at h2
  omega
 ·have h2:=sgA p q hp hq
  omega
variable (r:R)
def nm_ (a b:R):R:=a*a-r*(b*b)
def sx (a b:R):Int:=mix (s a) (s b) (s (a*a-r*(b*b)))
variable {r}
variable (hr:s r=1)
include hr
theorem sx_pos {a b:R} (h:s (nm_ r a b)=1):sx r a b=s a∧s a≠0:=by
 have ha:s a≠0:=fun h0=>by
  have h1:s (a*a)=0:=by rw [sgM,h0]; rfl
  unfold nm_ at h
  rw [sub_eq,sgZ _ h1,o_add,sgN,sgM,hr] at h
  have:=s_sq_nonneg b
  omega
 refine ⟨?_,ha⟩
 unfold sx mix
 unfold nm_ at h
 rw [h]
 split
 ·rfl
 ·simp only [ha,if_false,Int.mul_one]
theorem sx_neg1 {a b:R} (h:s (nm_ r a b)= -1):sx r a b=s b∧s b≠0:=by
 have hb:s b≠0:=fun h0=>by
  have h1:s (-(r*(b*b)))=0:=by rw [sgN,sgM,sgM,h0,Int.mul_zero,Int.mul_zero]; rfl
  unfold nm_ at h
  rw [sub_eq,sgZ _ h1,add_o] at h
  have:=s_sq_nonneg a
  omega
 refine ⟨?_,hb⟩
 unfold sx mix
 unfold nm_ at h
 rw [h]
 have ca:=sgC a
 have cb:=sgC b
 split
 ·omega
 ·split
  ·rfl
  ·omega
variable (nsq:∀a b:R,s (nm_ r a b)=0→a=o∧b=o)
include nsq
omit hr in
theorem sx_zero0 {a b:R} (h:s (nm_ r a b)=0):sx r a b=0:=by
 obtain ⟨rfl,rfl⟩:=nsq a b h
 unfold sx mix
 rw [sgO]
 rfl
theorem sx_cases (a b:R):sx r a b= -1∨sx r a b=0∨sx r a b=1:=by
 rcases sgC (nm_ r a b) with h|h|h
 ·rw [(sx_neg1 hr h).1]; exact sgC b
 ·rw [sx_zero0 nsq h]; exact .inr (.inl rfl)
 ·rw [(sx_pos hr h).1]; exact sgC a
theorem sx_zero {a b:R} (h:sx r a b=0):a=o∧b=o:=by
 rcases sgC (nm_ r a b) with h1|h1|h1
 ·have:=sx_neg1 hr h1; omega
 ·exact nsq a b h1
 ·have:=sx_pos hr h1; omega
variable (ri:Ri R r)
include ri
omit hr nsq in
theorem sx_neg (a b:R):sx r (-a) (-b)= -sx r a b:=by
 unfold sx
 rw [ri.i6,sgN,sgN]
 rcases sgC a with h1|h1|h1<;>rcases sgC b with h2|h2|h2<;>rw [h1,h2]<;>simp [mix]
omit nsq in
theorem x_pp {a b c d:R} (h1:s (nm_ r a b)=1) (h2:s (nm_ r c d)=1):s (a*c-r*(b*d))=s (a*c)∧s (a*c+r*(b*d))=s (a*c):=by
 refine s_both ?_ (ri.i3 _ _)
 rw [ri.i2]
 refine s_add_of ?_ ?_ (.inl ?_)
 ·rw [sgM,show s (c*c-r*(d*d))=1 from h2,Int.mul_one]; exact s_sq_nonneg a
 ·rw [sgM,sgM,hr,show s (a*a-r*(b*b))=1 from h1,Int.one_mul,Int.mul_one]; exact s_sq_nonneg d
 ·rw [sgM,show s (c*c-r*(d*d))=1 from h2,s_sq (sx_pos hr h1).2]; rfl
omit nsq in
theorem x_nn {a b c d:R} (h1:s (nm_ r a b)= -1) (h2:s (nm_ r c d)= -1):s (r*(b*d)-a*c)=s (b*d)∧s (a*c+r*(b*d))=s (b*d):=by
 have e:s (r*(b*d))=s (b*d):=by rw [sgM,hr,Int.one_mul]
 rw [←e]
 refine s_both ?_ (ri.i9 _ _)
 rw [ri.i8]
 have e1:s (-(c*c-r*(d*d)))=1:=by rw [sgN,show s (c*c-r*(d*d))= -1 from h2]; rfl
 have e2:s (-(a*a-r*(b*b)))=1:=by rw [sgN,show s (a*a-r*(b*b))= -1 from h1]; rfl
 refine s_add_of ?_ ?_ (.inl ?_)
 ·rw [sgM,sgM,hr,e1,Int.one_mul,Int.mul_one]; exact s_sq_nonneg b
 ·rw [sgM,e2,Int.mul_one]; exact s_sq_nonneg c
 ·rw [sgM,sgM,hr,e1,s_sq (sx_neg1 hr h1).2]; rfl
omit nsq in
theorem x_pn {a b c d:R} (h1:s (nm_ r a b)=1) (h2:s (nm_ r c d)= -1):s (a*d+b*c)=s (a*d):=by
 refine (s_both (p:=a*d-b*c) ?_ (ri.i3 _ _)).2
 have e1:s (-(c*c-r*(d*d)))=1:=by rw [sgN,show s (c*c-r*(d*d))= -1 from h2]; rfl
 have e:s ((a*d-b*c)*(a*d+b*c)*r)=1:=by
  rw [ri.i10]
  refine s_add_of ?_ ?_ (.inl ?_)
  ·rw [sgM,e1,Int.mul_one]; exact s_sq_nonneg a
  ·rw [sgM,show s (a*a-r*(b*b))=1 from h1,Int.mul_one]; exact s_sq_nonneg c
  ·rw [sgM,e1,s_sq (sx_pos hr h1).2]; rfl
 rw [sgM,hr,Int.mul_one] at e
 exact e
theorem sx_mul (a b c d:R):sx r (a*c+r*(b*d)) (a*d+b*c)=sx r a b*sx r c d:=by
 have hn:s (nm_ r (a*c+r*(b*d)) (a*d+b*c))=s (nm_ r a b)*s (nm_ r c d):=by
  show s ((a*c+r*(b*d))*(a*c+r*(b*d))-r*((a*d+b*c)*(a*d+b*c)))=_
  rw [ri.i4,sgM]; rfl
 rcases sgC (nm_ r a b) with h1|h1|h1<;>rcases sgC (nm_ r c d) with h2|h2|h2<;>rw [h1,h2] at hn
 ·rw [(sx_pos hr hn).1,(sx_neg1 hr h1).1,(sx_neg1 hr h2).1,(x_nn hr ri h1 h2).2,sgM]
 ·rw [sx_zero0 nsq hn,sx_zero0 nsq h2,Int.mul_zero]
 ·rw [(sx_neg1 hr hn).1,(sx_neg1 hr h1).1,(sx_pos hr h2).1,(ri.i11 a b c d).2,x_pn hr ri h2 h1,sgM,Int.mul_comm]
 ·rw [sx_zero0 nsq hn,sx_zero0 nsq h1,Int.zero_mul]
 ·rw [sx_zero0 nsq hn,sx_zero0 nsq h1,Int.zero_mul]
 ·rw [sx_zero0 nsq hn,sx_zero0 nsq h1,Int.zero_mul]
 ·rw [(sx_neg1 hr hn).1,(sx_pos hr h1).1,(sx_neg1 hr h2).1,x_pn hr ri h1 h2,sgM]
 ·rw [sx_zero0 nsq hn,sx_zero0 nsq h2,Int.mul_zero]
 ·rw [(sx_pos hr hn).1,(sx_pos hr h1).1,(sx_pos hr h2).1,(x_pp hr ri h1 h2).2,sgM]
omit nsq in
theorem n_pp {a b c d:R} (h1:s (nm_ r a b)=1) (h2:s (nm_ r c d)=1) (ha:s a=1) (hc:s c=1):s (nm_ r (a+c) (b+d))=1:=by
 have e:s (a*c-r*(b*d))=1:=by rw [(x_pp hr ri h1 h2).1,sgM,ha,hc]; rfl
 show s ((a+c)*(a+c)-r*((b+d)*(b+d)))=1
 rw [ri.i1]
 exact sgA _ _ (sgA _ _ h1 h2) (sgA _ _ e e)
omit nsq in
theorem n_nn {a b c d:R} (h1:s (nm_ r a b)= -1) (h2:s (nm_ r c d)= -1) (hb:s b=1) (hd:s d=1):s (nm_ r (a+c) (b+d))= -1:=by
 have e:s (r*(b*d)-a*c)=1:=by rw [(x_nn hr ri h1 h2).1,sgM,hb,hd]; rfl
 have e1:s (-(c*c-r*(d*d)))=1:=by rw [sgN,show s (c*c-r*(d*d))= -1 from h2]; rfl
 have e2:s (-(a*a-r*(b*b)))=1:=by rw [sgN,show s (a*a-r*(b*b))= -1 from h1]; rfl
 have h3:s (-((a+c)*(a+c)-r*((b+d)*(b+d))))=1:=by
  rw [ri.i12]
  exact sgA _ _ (sgA _ _ e2 e1) (sgA _ _ e e)
 rw [sgN] at h3
 show s ((a+c)*(a+c)-r*((b+d)*(b+d)))= -1
 omega
theorem sx_add_pn {a b c d:R} (h1:s (nm_ r a b)=1) (h2:s (nm_ r c d)= -1) (ha:s a=1) (hd:s d=1):sx r (a+c) (b+d)=1:=by
 have ng:∀x y:R,nm_ r (-x) (-y)=nm_ r x y:=fun x y=>ri.i6 x y
 rcases sgC (nm_ r (a+c) (b+d)) with h|h|h
 ·obtain ⟨e,hne⟩:=sx_neg1 hr h
  rw [e]
  rcases sgC (b+d) with h3|h3|h3
  ·have h4:=n_nn hr ri h2 (c:= -(a+c)) (d:= -(b+d)) (by rw [ng]; exact h) hd (by rw [sgN,h3]; rfl)
   rw [(ri.i13 a c).2,(ri.i13 b d).2,ng] at h4
   omega
  ·omega
  ·exact h3
 ·obtain ⟨e1,e2⟩:=nsq _ _ h
  have f1:=(ri.i13 a c).2
  have f2:=(ri.i13 b d).2
  rw [e1] at f1
  rw [e2] at f2
  have no:(-(o:R))=o:=sgZ _ (by rw [sgN,sgO]; rfl)
  rw [no,add_o] at f1 f2
  rw [f1,f2,ng] at h2
  omega
 ·obtain ⟨e,hne⟩:=sx_pos hr h
  rw [e]
  rcases sgC (a+c) with h3|h3|h3
  ·have h4:=n_pp hr ri h1 (c:= -(a+c)) (d:= -(b+d)) (by rw [ng]; exact h) ha (by rw [sgN,h3]; rfl)
   rw [(ri.i13 a c).1,(ri.i13 b d).1,ng] at h4
   omega
  ·omega
  ·exact h3
theorem sx_add {a b c d:R} (hz:sx r a b=1) (hw:sx r c d=1):sx r (a+c) (b+d)=1:=by
 rcases sgC (nm_ r a b) with h1|h1|h1
 ·have e1:=sx_neg1 hr h1
  rcases sgC (nm_ r c d) with h2|h2|h2
  ·have e2:=sx_neg1 hr h2
   rw [(sx_neg1 hr (n_nn hr ri h1 h2 (by omega) (by omega))).1]
   exact sgA _ _ (by omega) (by omega)
  ·have:=sx_zero0 nsq h2; omega
  ·have e2:=sx_pos hr h2
   rw [ri.i14 a c,ri.i14 b d]
   exact sx_add_pn hr nsq ri h2 h1 (by omega) (by omega)
 ·have:=sx_zero0 nsq h1; omega
 ·have e1:=sx_pos hr h1
  rcases sgC (nm_ r c d) with h2|h2|h2
  ·have e2:=sx_neg1 hr h2
   exact sx_add_pn hr nsq ri h1 h2 (by omega) (by omega)
  ·have:=sx_zero0 nsq h2; omega
  ·have e2:=sx_pos hr h2
   rw [(sx_pos hr (n_pp hr ri h1 h2 (by omega) (by omega))).1]
   exact sgA _ _ (by omega) (by omega)
end
instance:Sg Int where
 o:=0
 s:=sgn
 q_sc:=sgn_cases
 q_sz x h:=by unfold sgn at h; split at h; omega; split at h; assumption; omega
 q_so:=rfl
 q_sn x:=by unfold sgn; split<;>split<;>(try split)<;>(try split)<;>omega
 q_sm x y:=by
  rcases Int.lt_trichotomy x 0 with h|h|h<;>rcases Int.lt_trichotomy y 0 with h'|h'|h'
  ·have:=Int.mul_pos_of_neg_of_neg h h'; simp [sgn,h,h',show ¬x*y<0 by omega,show x*y≠0 by omega]
  ·subst h'; simp [sgn]
  ·have:=Int.mul_neg_of_neg_of_pos h h'; simp [sgn,h,show ¬y<0 by omega,show y≠0 by omega,this]
  ·subst h; simp [sgn]
  ·subst h; simp [sgn]
  ·subst h; simp [sgn]
  ·have:=Int.mul_neg_of_pos_of_neg h h'; simp [sgn,h',show ¬x<0 by omega,show x≠0 by omega,this]
  ·subst h'; simp [sgn]
  ·have:=Int.mul_pos h h'; simp [sgn,show ¬x<0 by omega,show x≠0 by omega,show ¬y<0 by omega,show y≠0 by omega,show ¬x*y<0 by omega,show x*y≠0 by omega]
 q_sa x y h h':=by unfold sgn at h h' ⊢; split at h<;>split at h'<;>(try split at h)<;>(try split at h')<;>(try split)<;>(try split)<;>omega
 q_add_o:=Int.add_zero
 q_o_add:=Int.zero_add
 q_sub_eq x y:=Int.sub_eq_add_neg
 q_neg_add x y:=Int.neg_add
theorem ri_int (r:Int):Ri Int r where
 i1:=by intros; grind
 i2:=by intros; grind
 i3:=by intros; grind
 i4:=by intros; grind
 i6:=by intros; grind
 i8:=by intros; grind
 i9:=by intros; grind
 i10:=by intros; grind
 i11:=by intros; constructor<;>grind
 i12:=by intros; grind
 i13:=by intros; constructor<;>grind
 i14:=by intros; grind
end Go.Proofs.YtpejalpgficopaaGreatDoor.G
end
section
namespace Go.Proofs.YtpejalpgficopaaGreatDoor.G
set_option maxRecDepth 100000
open Go
structure Z2 where
 a:Int
 b:Int
theorem Z2.ext' {x y:Z2} (h:x.a=y.a) (h':x.b=y.b):x=y:=by
 cases x; cases y; simp only at h h'; rw [h,h']
instance:Add Z2:=⟨fun x y=>⟨x.a+y.a,x.b+y.b⟩⟩
instance:Mul Z2:=⟨fun x y=>⟨x.a*y.a+2*(x.b*y.b),x.a*y.b+x.b*y.a⟩⟩
instance:Neg Z2:=⟨fun x=>⟨-x.a,-x.b⟩⟩
instance:Sub Z2:=⟨fun x y=>⟨x.a-y.a,x.b-y.b⟩⟩
@[simp] theorem z2a_add (x y:Z2):(x+y).a=x.a+y.a:=rfl
@[simp] theorem z2b_add (x y:Z2):(x+y).b=x.b+y.b:=rfl
@[simp] theorem z2a_mul (x y:Z2):(x*y).a=x.a*y.a+2*(x.b*y.b):=rfl
@[simp] theorem z2b_mul (x y:Z2):(x*y).b=x.a*y.b+x.b*y.a:=rfl
@[simp] theorem z2a_neg (x:Z2):(-x).a= -x.a:=rfl
@[simp] theorem z2b_neg (x:Z2):(-x).b= -x.b:=rfl
@[simp] theorem z2a_sub (x y:Z2):(x-y).a=x.a-y.a:=rfl
@[simp] theorem z2b_sub (x y:Z2):(x-y).b=x.b-y.b:=rfl
theorem nsq2 (a b:Int) (h:Sg.s (nm_ (2:Int) a b)=0):a=Sg.o∧b=Sg.o:=by
 have h1:a*a-2*(b*b)=0:=sgZ (R:=Int) _ h
 exact root2 _ a b (Nat.le_refl _) (by omega)
instance:Sg Z2 where
 o:=⟨0,0⟩
 s x:=sg2 x.a x.b
 q_sc x:=sg2_cases x.a x.b
 q_sz x h:=by
  obtain ⟨h1,h2⟩:=sx_zero (R:=Int) (r:=2) (a:=x.a) (b:=x.b) rfl nsq2 h
  exact Z2.ext' h1 h2
 q_so:=rfl
 q_sn x:=sx_neg (R:=Int) (r:=2) (ri_int 2) x.a x.b
 q_sm x y:=sx_mul (R:=Int) (r:=2) rfl nsq2 (ri_int 2) x.a x.b y.a y.b
 q_sa x y h h':=sx_add (R:=Int) (r:=2) rfl nsq2 (ri_int 2) (a:=x.a) (b:=x.b) (c:=y.a) (d:=y.b) h h'
 q_add_o x:=Z2.ext' (Int.add_zero _) (Int.add_zero _)
 q_o_add x:=Z2.ext' (Int.zero_add _) (Int.zero_add _)
 q_sub_eq x y:=Z2.ext' Int.sub_eq_add_neg Int.sub_eq_add_neg
 q_neg_add x y:=Z2.ext' Int.neg_add Int.neg_add
theorem s_z2 (x:Z2):Sg.s x=sg2 x.a x.b:=rfl
theorem ri_z2 (r:Z2):Ri Z2 r where
 i1:=by intros; refine Z2.ext' ?_ ?_<;>simp<;>grind
 i2:=by intros; refine Z2.ext' ?_ ?_<;>simp<;>grind
 i3:=by intros; refine Z2.ext' ?_ ?_<;>simp<;>grind
 i4:=by intros; refine Z2.ext' ?_ ?_<;>simp<;>grind
 i6:=by intros; refine Z2.ext' ?_ ?_<;>simp<;>grind
 i8:=by intros; refine Z2.ext' ?_ ?_<;>simp<;>grind
 i9:=by intros; refine Z2.ext' ?_ ?_<;>simp<;>grind
 i10:=by intros; refine Z2.ext' ?_ ?_<;>simp<;>grind
 i11:=by intros; constructor<;>refine Z2.ext' ?_ ?_<;>simp<;>grind
 i12:=by intros; refine Z2.ext' ?_ ?_<;>simp<;>grind
 i13:=by intros; constructor<;>refine Z2.ext' ?_ ?_<;>simp<;>grind
 i14:=by intros; refine Z2.ext' ?_ ?_<;>simp<;>grind
structure Z6 where
 p:Z2
 q:Z2
theorem Z6.ext' {x y:Z6} (h:x.p=y.p) (h':x.q=y.q):x=y:=by
 cases x; cases y; simp only at h h'; rw [h,h']
theorem Z6.ext4 {x y:Z6} (h0:x.p.a=y.p.a) (h1:x.p.b=y.p.b) (h2:x.q.a=y.q.a) (h3:x.q.b=y.q.b):x=y:=Z6.ext' (Z2.ext' h0 h1) (Z2.ext' h2 h3)
abbrev thr:Z2:=⟨3,0⟩
instance:Add Z6:=⟨fun x y=>⟨x.p+y.p,x.q+y.q⟩⟩
instance:Mul Z6:=⟨fun x y=>⟨x.p*y.p+thr*(x.q*y.q),x.p*y.q+x.q*y.p⟩⟩
instance:Neg Z6:=⟨fun x=>⟨-x.p,-x.q⟩⟩
instance:Sub Z6:=⟨fun x y=>⟨x.p-y.p,x.q-y.q⟩⟩
@[simp] theorem z6p_add (x y:Z6):(x+y).p=x.p+y.p:=rfl
@[simp] theorem z6q_add (x y:Z6):(x+y).q=x.q+y.q:=rfl
@[simp] theorem z6p_mul (x y:Z6):(x*y).p=x.p*y.p+thr*(x.q*y.q):=rfl
@[simp] theorem z6q_mul (x y:Z6):(x*y).q=x.p*y.q+x.q*y.p:=rfl
@[simp] theorem z6p_neg (x:Z6):(-x).p= -x.p:=rfl
@[simp] theorem z6q_neg (x:Z6):(-x).q= -x.q:=rfl
theorem nsq3 (p q:Z2) (h:Sg.s (nm_ thr p q)=0):p=Sg.o∧q=Sg.o:=by
 have h1:p*p-thr*(q*q)=Sg.o:=sgZ (R:=Z2) _ h
 have h2:(p*p-thr*(q*q)).a=0:=by rw [h1]; rfl
 have h3:(p*p-thr*(q*q)).b=0:=by rw [h1]; rfl
 simp at h2 h3
 obtain ⟨e0,e1,e2,e3⟩:=root3 _ p.a p.b q.a q.b (Nat.le_refl _) (by omega) (by have:=Int.mul_comm p.b p.a; have:=Int.mul_comm q.b q.a; omega)
 exact ⟨Z2.ext' e0 e1,Z2.ext' e2 e3⟩
theorem s_thr:Sg.s thr=1:=by decide
theorem sx_sgz (c0 c1 c2 c3:Int):sx thr ⟨c0,c1⟩ ⟨c2,c3⟩=sgz c0 c1 c2 c3:=by
 unfold sx sgz
 have e0:Sg.s (⟨c0,c1⟩:Z2)=sg2 c0 c1:=rfl
 have e1:Sg.s (⟨c2,c3⟩:Z2)=sg2 c2 c3:=rfl
 have e2:Sg.s ((⟨c0,c1⟩:Z2)*⟨c0,c1⟩-thr*((⟨c2,c3⟩:Z2)*⟨c2,c3⟩))=sg2 (1*(c0*c0)+2*(c1*c1)-(3*(c2*c2)+6*(c3*c3))) (2*(c0*c1)-6*(c2*c3)):=by
  rw [s_z2]
  congr 1
  ·simp; omega
  ·simp
   have:=Int.mul_comm c1 c0
   have:=Int.mul_comm c3 c2
   omega
 rw [e0,e1,e2]
 simp only
 generalize sg2 c0 c1=a
 generalize sg2 c2 c3=b
 by_cases h:a=b∨b=0∨a=0
 ·rw [if_pos h]
  unfold mix
  rcases h with h|h|h
  ·simp [h]
  ·simp [h]
  ·subst h; by_cases h1:b=0
   ·simp [h1]
   ·simp [h1]
 ·rw [if_neg h]
instance:Sg Z6 where
 o:=⟨⟨0,0⟩,⟨0,0⟩⟩
 s x:=sgz x.p.a x.p.b x.q.a x.q.b
 q_sc x:=by rw [←sx_sgz]; exact sx_cases s_thr nsq3 _ _
 q_sz x h:=by
  rw [←sx_sgz] at h
  obtain ⟨h1,h2⟩:=sx_zero s_thr nsq3 h
  exact Z6.ext' h1 h2
 q_so:=rfl
 q_sn x:=by rw [←sx_sgz,←sx_sgz]; exact sx_neg (ri_z2 thr) x.p x.q
 q_sm x y:=by rw [←sx_sgz,←sx_sgz,←sx_sgz]; exact sx_mul s_thr nsq3 (ri_z2 thr) x.p x.q y.p y.q
 q_sa x y h h':=by rw [←sx_sgz] at h h' ⊢; exact sx_add s_thr nsq3 (ri_z2 thr) (a:=x.p) (b:=x.q) (c:=y.p) (d:=y.q) h h'
 q_add_o x:=Z6.ext4 (Int.add_zero _) (Int.add_zero _) (Int.add_zero _) (Int.add_zero _)
 q_o_add x:=Z6.ext4 (Int.zero_add _) (Int.zero_add _) (Int.zero_add _) (Int.zero_add _)
 q_sub_eq x y:=Z6.ext4 Int.sub_eq_add_neg Int.sub_eq_add_neg Int.sub_eq_add_neg Int.sub_eq_add_neg
 q_neg_add x y:=Z6.ext4 Int.neg_add Int.neg_add Int.neg_add Int.neg_add
theorem Z6.mul_comm (x y:Z6):x*y=y*x:=by refine Z6.ext4 ?_ ?_ ?_ ?_<;>simp<;>grind
theorem Z6.mul_assoc (x y z:Z6):x*y*z=x*(y*z):=by refine Z6.ext4 ?_ ?_ ?_ ?_<;>simp<;>grind
theorem Z6.add_comm (x y:Z6):x+y=y+x:=by refine Z6.ext4 ?_ ?_ ?_ ?_<;>simp<;>grind
theorem Z6.add_assoc (x y z:Z6):x+y+z=x+(y+z):=by refine Z6.ext4 ?_ ?_ ?_ ?_<;>simp<;>grind
theorem Z6.add_mul (x y z:Z6):(x+y)*z=x*z+y*z:=by refine Z6.ext4 ?_ ?_ ?_ ?_<;>simp<;>grind
theorem Z6.neg_mul (x y:Z6): -x*y= -(x*y):=by refine Z6.ext4 ?_ ?_ ?_ ?_<;>simp<;>grind
theorem Z6.add_neg (x:Z6):x+ -x=Sg.o:=by refine Z6.ext4 ?_ ?_ ?_ ?_<;>simp [Sg.o]<;>omega
instance:Std.Commutative (α:=Z6) (· * ·):=⟨Z6.mul_comm⟩
instance:Std.Associative (α:=Z6) (· * ·):=⟨Z6.mul_assoc⟩
instance:Std.Commutative (α:=Z6) (· + ·):=⟨Z6.add_comm⟩
instance:Std.Associative (α:=Z6) (· + ·):=⟨Z6.add_assoc⟩
def zi (n:Int):Z6:=⟨⟨n,0⟩,⟨0,0⟩⟩
theorem zi_mul (m n:Int):zi (m*n)=zi m*zi n:=by refine Z6.ext4 ?_ ?_ ?_ ?_<;>simp [zi]
theorem zi_add (m n:Int):zi (m+n)=zi m+zi n:=by refine Z6.ext4 ?_ ?_ ?_ ?_<;>simp [zi]
theorem zi_neg (m:Int):zi (-m)= -zi m:=by refine Z6.ext4 ?_ ?_ ?_ ?_<;>simp [zi]
theorem zi_one (x:Z6):zi 1*x=x:=by refine Z6.ext4 ?_ ?_ ?_ ?_<;>simp [zi]
theorem one_zi (x:Z6):x*zi 1=x:=by rw [Z6.mul_comm,zi_one]
theorem s_zi (n:Int):Sg.s (zi n)=sgn n:=by
 show sgz n 0 0 0=sgn n
 have h0:sg2 0 0=0:=by decide
 have h1:sg2 n 0=sgn n:=by unfold sg2 mix; simp [show sgn 0=0 from rfl]
 unfold sgz
 simp only [h0,h1]
 unfold mix
 simp
theorem sgn_pos {n:Int} :sgn n=1↔0<n:=by unfold sgn; split; omega; split<;>omega
theorem sgn_neg1 {n:Int} :sgn n= -1↔n<0:=by unfold sgn; split; omega; split<;>omega
theorem sgn_zero {n:Int} :sgn n=0↔n=0:=by unfold sgn; split; omega; split<;>omega
theorem z6_cancel {k x y:Z6} (hk:Sg.s k≠0) (h:k*x=k*y):x=y:=by
 have e:k*(x+ -y)=Sg.o:=by
  rw [Z6.mul_comm,Z6.add_mul,Z6.neg_mul,Z6.mul_comm x,Z6.mul_comm y,h,Z6.add_neg]
 have h1:Sg.s k*Sg.s (x+ -y)=0:=by rw [←sgM,e,sgO]
 have h2:Sg.s (x+ -y)=0:=(Int.mul_eq_zero.1 h1).resolve_left hk
 have h3:=sgZ _ h2
 calc x=x+(-y+y):=by rw [Z6.add_comm (-y) y,Z6.add_neg,add_o]
  _=(x+ -y)+y:=by rw [Z6.add_assoc]
  _=y:=by rw [h3,o_add]
def wv (q:Q):Z6:=⟨⟨q.c0,q.c1⟩,⟨q.c2,q.c3⟩⟩
theorem sg_wv (q:Q):q.sg=Sg.s (wv q):=rfl
structure Rep (q:Q) (u v:Z6):Prop where
 nz:Sg.s v≠0
 eq:wv q*v=u*zi q.d
theorem zd_pos {q:Q} (h:q.ok=true):Sg.s (zi q.d)=1:=by rw [s_zi]; exact sgn_pos.2 (Q.ok_d h).1
theorem Rep.self {q:Q} (h:q.ok=true):Rep q (wv q) (zi q.d):=⟨by rw [zd_pos h]; decide,rfl⟩
theorem Rep.conv {q:Q} {u v u' v':Z6} (h:Rep q u v) (hv:Sg.s v'≠0) (e:u*v'=u'*v):Rep q u' v':=by
 refine ⟨hv,z6_cancel h.nz ?_⟩
 have h1:=h.eq
 calc v*(wv q*v')=(wv q*v)*v':=by ac_rfl
  _=u*zi q.d*v':=by rw [h1]
  _=(u*v')*zi q.d:=by ac_rfl
  _=v*(u'*zi q.d):=by rw [e]; ac_rfl
theorem Rep.sg {q:Q} {u v:Z6} (h:Rep q u v) (ok:q.ok=true):q.sg=Sg.s u*Sg.s v:=by
 have h1:=congrArg Sg.s h.eq
 rw [sgM,sgM,zd_pos ok,Int.mul_one] at h1
 rw [sg_wv]
 have h2:=h.nz
 rcases sgC v with h3|h3|h3
 ·rw [h3] at h1 ⊢; omega
 ·omega
 ·rw [h3] at h1 ⊢; omega
theorem low_rep {q:Q} (hd:q.d≠0) {u v:Z6} (hv:Sg.s v≠0) (e:wv q*v=u*zi q.d):Rep (low q) u v:=by
 obtain ⟨m,hm,e0,e1,e2,e3,e4⟩:=low_parts hd
 have hw:wv q=zi m*wv (low q):=by refine Z6.ext4 ?_ ?_ ?_ ?_<;>simp [zi,wv]<;>assumption
 have hz:zi q.d=zi m*zi (low q).d:=by rw [←zi_mul,←e4]
 refine ⟨hv,z6_cancel (k:=zi m) (by rw [s_zi]; exact fun h=>hm (sgn_zero.1 h)) ?_⟩
 calc zi m*(wv (low q)*v)=wv q*v:=by rw [hw]; ac_rfl
  _=u*(zi m*zi (low q).d):=by rw [e,hz]
  _=zi m*(u*zi (low q).d):=by ac_rfl
theorem wv_prod (x y:Q):wv (qprod x y)=wv x*wv y:=by
 refine Z6.ext4 ?_ ?_ ?_ ?_<;>simp [wv,qprod]<;>grind
theorem s_ne_mul {x y:Z6} (hx:Sg.s x≠0) (hy:Sg.s y≠0):Sg.s (x*y)≠0:=by
 rw [sgM]; exact Int.mul_ne_zero hx hy
theorem Rep.mul {x y:Q} {u v u' v':Z6} (hx:Rep x u v) (hy:Rep y u' v') (ox:x.ok=true) (oy:y.ok=true):Rep (qmul x y) (u*u') (v*v'):=by
 refine low_rep (q:=qprod x y) (dd_ne ox oy) (s_ne_mul hx.nz hy.nz) ?_
 rw [wv_prod,show (qprod x y).d=x.d*y.d from rfl,zi_mul]
 calc wv x*wv y*(v*v')=(wv x*v)*(wv y*v'):=by ac_rfl
  _=u*zi x.d*(u'*zi y.d):=by rw [hx.eq,hy.eq]
  _=u*u'*(zi x.d*zi y.d):=by ac_rfl
theorem wv_sum (x y:Q):wv (qsum x y)=wv x*zi y.d+wv y*zi x.d:=by
 refine Z6.ext4 ?_ ?_ ?_ ?_<;>simp [wv,qsum,zi]
theorem Rep.add {x y:Q} {u v u' v':Z6} (hx:Rep x u v) (hy:Rep y u' v') (ox:x.ok=true) (oy:y.ok=true):Rep (qadd x y) (u*v'+u'*v) (v*v'):=by
 refine low_rep (q:=qsum x y) (dd_ne ox oy) (s_ne_mul hx.nz hy.nz) ?_
 rw [wv_sum,show (qsum x y).d=x.d*y.d from rfl,zi_mul,Z6.add_mul,Z6.add_mul]
 have e1:wv x*zi y.d*(v*v')=u*v'*(zi x.d*zi y.d):=by
  calc wv x*zi y.d*(v*v')=(wv x*v)*(zi y.d*v'):=by ac_rfl
   _=_:=by rw [hx.eq]; ac_rfl
 have e2:wv y*zi x.d*(v*v')=u'*v*(zi x.d*zi y.d):=by
  calc wv y*zi x.d*(v*v')=(wv y*v')*(zi x.d*v):=by ac_rfl
   _=_:=by rw [hy.eq]; ac_rfl
 rw [e1,e2]
theorem wv_neg (x:Q):wv (qneg x)= -wv x:=rfl
theorem Rep.neg {x:Q} {u v:Z6} (h:Rep x u v):Rep (qneg x) (-u) v:=by
 refine ⟨h.nz,?_⟩
 rw [wv_neg,Z6.neg_mul,Z6.neg_mul,h.eq]; rfl
theorem Rep.of (n:Int):Rep (qof n) (zi n) (zi 1):=⟨by rw [s_zi]; decide,rfl⟩
theorem Rep.sub {x y:Q} {u v u' v':Z6} (hx:Rep x u v) (hy:Rep y u' v') (ox:x.ok=true) (oy:y.ok=true):Rep (qsub x y) (u*v'+ -u'*v) (v*v'):=hx.add hy.neg ox (by rw [qneg_ok,oy])
theorem qone_rat {y:Q} (oy:y.ok=true):wv (qone y)=zi (qone y).c0:=by
 obtain ⟨m,hm,h0,h1,h2,h3⟩:=qtwo_parts oy
 have ot:=qtwo_ok oy
 obtain ⟨k,hk,e0,e1,e2,e3,e4⟩:=low_parts (q:=qprod (qtwo y) (cj1 (qtwo y))) (dd_ne ot (by rw [cj1_ok,ot]))
 have z:∀ {a b:Int},a=0→a=k*b→b=0:=fun h h'=>by
  rw [h] at h'
  exact (Int.mul_eq_zero.1 h'.symm).resolve_left hk
 have f1:=z (by simp only [qprod,cj1,h2,h3]; grind) e1
 have f2:=z (by simp only [qprod,cj1,h2,h3]; grind) e2
 have f3:=z (by simp only [qprod,cj1,h2,h3]; grind) e3
 exact Z6.ext4 rfl f1 f2 f3
theorem Rep.div {x y:Q} {u v u' v':Z6} (hx:Rep x u v) (hy:Rep y u' v') (ox:x.ok=true) (oy:y.ok=true) (hu:Sg.s u'≠0):Rep (qdiv x y) (u*v') (v*u'):=by
 have hsy:Sg.s (wv y)≠0:=fun h=>by
  have:=hy.sg oy
  rw [sg_wv,h] at this
  exact (Int.mul_ne_zero hu hy.nz) this.symm
 have hnz:¬(y.c0=0∧y.c1=0∧y.c2=0∧y.c3=0):=by
  rintro ⟨h0,h1,h2,h3⟩
  apply hsy
  unfold wv
  rw [h0,h1,h2,h3]
  rfl
 have oa:(cj2 y).ok=true:=by rw [cj2_ok,oy]
 have ot:=qtwo_ok oy
 have ob:(cj1 (qtwo y)).ok=true:=by rw [cj1_ok,ot]
 have on:=qone_ok oy
 have oi:=qinv_ok oy hnz
 have hO:Sg.s (zi (qone y).c0)≠0:=by rw [s_zi]; exact fun h=>qone_ne oy hnz (sgn_zero.1 h)
 have r1:=(Rep.self ox).mul (Rep.self oa) ox oa
 have ri:Rep (qinv y) (zi (qone y).d) (zi (qone y).c0):=low_rep (q:=⟨(qone y).d,0,0,0,(qone y).c0⟩) (qone_ne oy hnz) hO rfl
 have r2:=(Rep.self ob).mul ri ob oi
 have r:=r1.mul r2 (qmul_ok ox oa) (qmul_ok ob oi)
 refine r.conv (s_ne_mul hx.nz hu) ?_
 have t1:=((Rep.self oy).mul (Rep.self oa) oy oa).eq
 have t2:=((Rep.self ot).mul (Rep.self ob) ot ob).eq
 change wv (qtwo y)*(zi y.d*zi y.d)=wv y*wv (cj2 y)*zi (qtwo y).d at t1
 change wv (qone y)*(zi (qtwo y).d*zi (qtwo y).d)=wv (qtwo y)*wv (cj1 (qtwo y))*zi (qone y).d at t2
 rw [qone_rat oy] at t2
 change wv x*wv (cj2 y)*(wv (cj1 (qtwo y))*zi (qone y).d)*(v*u')=u*v'*(zi x.d*zi y.d*(zi (qtwo y).d*zi (qone y).c0))
 have hx1:=hx.eq
 have hy1:=hy.eq
 have hT:=zd_pos ot
 have hY:=zd_pos oy
 generalize wv (cj2 y)=Y' at*
 generalize wv (cj1 (qtwo y))=t' at*
 generalize wv (qtwo y)=t at*
 generalize zi (qtwo y).d=τ at*
 generalize zi (qone y).d=Od at*
 generalize zi (qone y).c0=Oc at*
 generalize zi y.d=D at*
 generalize wv y=Y at*
 generalize zi x.d=Dx at*
 generalize wv x=X at*
 refine z6_cancel (k:=τ*D) (s_ne_mul (by rw [hT]; decide) (by rw [hY]; decide)) ?_
 calc τ*D*(X*Y'*(t'*Od)*(v*u'))=(X*v)*(u'*D)*(τ*Y'*t'*Od):=by ac_rfl
  _=(u*Dx)*(Y*v')*(τ*Y'*t'*Od):=by rw [hx1,hy1]
  _=(Y*Y'*τ)*(u*Dx*v'*t'*Od):=by ac_rfl
  _=(t*(D*D))*(u*Dx*v'*t'*Od):=by rw [t1]
  _=(t*t'*Od)*(D*D*u*Dx*v'):=by ac_rfl
  _=(Oc*(τ*τ))*(D*D*u*Dx*v'):=by rw [t2]
  _=τ*D*(u*v'*(Dx*D*(τ*Oc))):=by ac_rfl
end Go.Proofs.YtpejalpgficopaaGreatDoor.G
end
