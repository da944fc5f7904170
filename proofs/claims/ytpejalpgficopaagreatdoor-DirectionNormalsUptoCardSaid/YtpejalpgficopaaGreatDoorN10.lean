/- A part of what the law's proof leans on. PACKED BY pack.py of this repo. -/
import Derived.Test.YtpejalpgficopaaGreatDoorN9
set_option linter.unusedVariables false
set_option linter.unusedSimpArgs false
set_option linter.defProp false
set_option linter.unusedSectionVars false
section
namespace Go.Proofs.YtpejalpgficopaaGreatDoor.G
set_option maxRecDepth 100000
open Go Go.Proofs Go.RowKit RX
def field_mixed.K {R:Type} (a0:Int) (a1:Int) (a2:Int) (k:(Int)→R):R:=
 bif a0==a1 then k (a0) else bif a1==0 then k (a0) else bif a0==0 then k (a1) else k (IntKind.i64.wrap (a0*a2))
theorem field_mixed.run (a0:Int) (a1:Int) (a2:Int):xfn Tryz.prog ⟨[],[],[]⟩ [] 60 Tryz.f168 [.int .i64 a0,.int .i64 a1,.int .i64 a2] []=field_mixed.K a0 a1 a2 (fun r=>some (.int .i64 r,[])):=by kernel_rfl
def field_mixed (a0:Int) (a1:Int) (a2:Int):Int:=field_mixed.K a0 a1 a2 id
theorem field_mixed.nat {R:Type} (a0:Int) (a1:Int) (a2:Int) (k:(Int)→R):field_mixed.K a0 a1 a2 k=k (field_mixed.K a0 a1 a2 id):=by
 simp only [field_mixed.K,acond k,id_eq]
theorem field_mixed.es {a b s:Int} (ha:a= -1∨a=0∨a=1) (hs:s= -1∨s=0∨s=1):field_mixed a b s=mix a b s:=by
 simp only [field_mixed,field_mixed.K,id_eq,mix]
 by_cases h1:a=b
 ·rw [if_pos (.inl h1),h1]; simp
 ·rw [beq_of h1]
  by_cases h2:b=0
  ·rw [if_pos (.inr h2),h2]; rfl
  ·rw [beq_of h2,if_neg (fun h=>h.elim h1 h2)]
   by_cases h3:a=0
   ·rw [if_pos h3,h3]; rfl
   ·rw [beq_of h3,if_neg h3]
    rcases ha with rfl|rfl|rfl<;>rcases hs with rfl|rfl|rfl<;>rfl
theorem field_mixed.ok:SOK Tryz.prog 168 (field_mixed.sp field_mixed):=by
 refine sok_of (E:=⟨[],[],[]⟩) (L:=[]) ⟨specs_nil,inl_nil,mixed_ok,lps_nil⟩ 60 Tryz.func168 (by decide) rfl no_loops fun vs bl v bl' h=> ?_
 unfold field_mixed.sp at h
 split at h
 ·rename_i a0 a1 a2
  simp only [Option.some.injEq,Prod.mk.injEq,true_and] at h
  obtain ⟨rfl,rfl⟩:=h
  refine ⟨?_,by simp [okV,Nat.blt],clo_spec 8 _ (by kernel_rfl),told_blk (by kernel_rfl)⟩
  refine (field_mixed.run a0 a1 a2).trans ?_
  refine (field_mixed.nat a0 a1 a2 _).trans ?_
  kernel_rfl
 ·cases h
section
variable {R:Type} (BZ:Int→(Bool×ByteArray)) (BX:Int→Bool) (BV:Bool→ByteArray→Bool→ByteArray→(Bool×ByteArray)) (BT:Bool→ByteArray→Bool→ByteArray→Bool) (a0:Int) (AD:Bool) (AC:ByteArray) (ET:Bool) (ES:ByteArray)
def field_times.K (k:Bool×ByteArray→Option R):Option R:=
 let t0:=BX a0
 bif t0 then
 let t1:=BT AD AC ET ES
 bif t1 then
 let t2:=BZ a0
 let t3:=BV AD AC ET ES
 let t4:=BT t2.1 t2.2 t3.1 t3.2
 bif t4 then
 let t5:=BV t2.1 t2.2 t3.1 t3.2
 k (t5.1,t5.2) else none else none else none
theorem field_times.run:xfn Tryz.prog ⟨[(160,bigint_Of.sp BZ BX),(163,bigint_Mul.sp BV BT)],[],[]⟩ [] 60 Tryz.f170 [.int .i64 a0,.agg ⟨[.bool AD,.string AC]⟩,.agg ⟨[.bool ET,.string ES]⟩] []=field_times.K BZ BX BV BT a0 AD AC ET ES (fun r=>some (.agg ⟨[.bool r.1,.string r.2]⟩,[])):=by kernel_rfl
def field_times.o:Option (Bool×ByteArray):=field_times.K bigint_Of bigint_Of.pre bigint_Mul bigint_Mul.pre a0 AD AC ET ES some
def field_times.pre:Bool:=(field_times.o a0 AD AC ET ES).isSome
def field_times:Bool×ByteArray:=(field_times.o a0 AD AC ET ES).getD default
theorem field_times.nat (k:Bool×ByteArray→Option R):field_times.K BZ BX BV BT a0 AD AC ET ES k=(field_times.K BZ BX BV BT a0 AD AC ET ES some).bind k:=by
 simp only [field_times.K,bcond,Option.bind_some,Option.bind_none]
theorem field_times.os {j k:Nat} {q a b:Int} (hq:Few6 q) (ha:Bd j a) (hb:Bd k b) (hj:j≤PRM) (hk:k≤PRM):field_times.o q (dI a).1 (dI a).2 (dI b).1 (dI b).2=some (dI (q*(a*b))):=by
 have h1:bigint_Of.pre q=true:=by rcases hq with rfl|rfl|rfl|rfl<;>rfl
 unfold PRM at hj hk
 have h2:=mul_pre ha hb (by unfold LIM; omega) (by unfold LIM; omega)
 have h3:=mul_pre (few_bd hq) (ha.mul hb) (by unfold LIM; omega) (by unfold LIM; omega)
 simp only [field_times.o,field_times.K,h1,h2,of_dI,bigint_Mul_dI,h3,cond_true]
theorem field_times.ps {j k:Nat} {q a b:Int} (hq:Few6 q) (ha:Bd j a) (hb:Bd k b) (hj:j≤PRM) (hk:k≤PRM):field_times.pre q (dI a).1 (dI a).2 (dI b).1 (dI b).2=true:=isSome_of (field_times.os hq ha hb hj hk)
theorem field_times.es {j k:Nat} {q a b:Int} (hq:Few6 q) (ha:Bd j a) (hb:Bd k b) (hj:j≤PRM) (hk:k≤PRM):field_times q (dI a).1 (dI a).2 (dI b).1 (dI b).2=dI (q*(a*b)):=getD_of (field_times.os hq ha hb hj hk)
end
theorem field_times.ok:SOK Tryz.prog 170 (field_times.sp field_times field_times.pre):=by
 refine sok_of (E:=⟨[(160,bigint_Of.sp bigint_Of bigint_Of.pre),(163,bigint_Mul.sp bigint_Mul bigint_Mul.pre)],[],[]⟩) (L:=[]) ⟨(specs_cons bigint_Of.ok (specs_cons bigint_Mul.ok specs_nil)),inl_nil,mixed_ok,lps_nil⟩ 60 Tryz.func170 (by decide) rfl no_loops fun vs bl v bl' h=> ?_
 unfold field_times.sp at h
 split at h
 ·rename_i a0 AD AC ET ES
  simp only [Option.some.injEq,Prod.mk.injEq] at h
  obtain ⟨hp,rfl,rfl⟩:=h
  have hr:=field_times.run bigint_Of bigint_Of.pre bigint_Mul bigint_Mul.pre a0 AD AC ET ES
  rw [field_times.nat] at hr
  obtain ⟨r,h2⟩:=Option.isSome_iff_exists.1 (hp:(field_times.o a0 AD AC ET ES).isSome=true)
  have h3:field_times a0 AD AC ET ES=r:=by unfold field_times; rw [h2]; rfl
  have h4:field_times.K bigint_Of bigint_Of.pre bigint_Mul bigint_Mul.pre a0 AD AC ET ES some=some r:=h2
  rw [h4,Option.bind_some] at hr
  rw [h3]
  exact ⟨hr,by simp [okV,Nat.blt],clo_spec 8 _ (by kernel_rfl),told_blk (by kernel_rfl)⟩
 ·cases h
section
variable {R:Type} (C3:Bool→ByteArray→(Int)) (BV:Bool→ByteArray→Bool→ByteArray→(Bool×ByteArray)) (BT:Bool→ByteArray→Bool→ByteArray→Bool) (CG:Int→Int→Int→(Int)) (CD:Int→Bool→ByteArray→Bool→ByteArray→(Bool×ByteArray)) (CC:Int→Bool→ByteArray→Bool→ByteArray→Bool) (EV:Bool→ByteArray→Bool→ByteArray→(Int)) (EU:Bool→ByteArray→Bool→ByteArray→Bool) (A3:Bool) (A2:ByteArray) (AD:Bool) (AC:ByteArray)
def field_sign2.K (k:(Int)→Option R):Option R:=
 let t0:=BT A3 A2 A3 A2
 bif t0 then
 let t1:=CC 2 AD AC AD AC
 bif t1 then
 let t2:=BV A3 A2 A3 A2
 let t3:=CD 2 AD AC AD AC
 let t4:=EU t2.1 t2.2 t3.1 t3.2
 bif t4 then
 let t5:=C3 A3 A2
 let t6:=C3 AD AC
 let t7:=EV t2.1 t2.2 t3.1 t3.2
 let t8:=CG t5 t6 t7
 k (t8) else none else none else none
theorem field_sign2.run:xfn Tryz.prog ⟨[(158,bigint_Sign.sp C3),(163,bigint_Mul.sp BV BT),(168,field_mixed.sp CG),(170,field_times.sp CD CC),(196,bigint_Cmp.sp EV EU)],[],[]⟩ [] 60 Tryz.f167 [.agg ⟨[.bool A3,.string A2]⟩,.agg ⟨[.bool AD,.string AC]⟩] []=field_sign2.K C3 BV BT CG CD CC EV EU A3 A2 AD AC (fun r=>some (.int .i64 r,[])):=by kernel_rfl
def field_sign2.o:Option (Int):=field_sign2.K bigint_Sign bigint_Mul bigint_Mul.pre field_mixed field_times field_times.pre bigint_Cmp bigint_Cmp.pre A3 A2 AD AC some
def field_sign2.pre:Bool:=(field_sign2.o A3 A2 AD AC).isSome
def field_sign2:Int:=(field_sign2.o A3 A2 AD AC).getD default
theorem field_sign2.nat (k:(Int)→Option R):field_sign2.K C3 BV BT CG CD CC EV EU A3 A2 AD AC k=(field_sign2.K C3 BV BT CG CD CC EV EU A3 A2 AD AC some).bind k:=by
 simp only [field_sign2.K,bcond,Option.bind_some,Option.bind_none]
theorem field_sign2.os {j k:Nat} {a b:Int} (ha:Bd j a) (hb:Bd k b) (hj:j≤PRM) (hk:k≤PRM):field_sign2.o (dI a).1 (dI a).2 (dI b).1 (dI b).2=some (sg2 a b):=by
 have f2:Few6 2:= .inr (.inl rfl)
 have p1:=field_times.ps f2 hb hb hk hk
 have p2:=field_times.es f2 hb hb hk hk
 unfold PRM at hj hk
 have h2:=mul_pre ha ha (by unfold LIM; omega) (by unfold LIM; omega)
 have h3:=cmp_pre (ha.mul ha) ((few_bd f2).mul (hb.mul hb)) (by unfold LIM; omega) (by unfold LIM; omega)
 simp only [field_sign2.o,field_sign2.K,h2,p1,p2,bigint_Mul_dI,h3,bigint_Sign_dI,bigint_Cmp_dI,cond_true,field_mixed.es (sgn_cases _) (sgn_cases _)]
 rfl
theorem field_sign2.ps {j k:Nat} {a b:Int} (ha:Bd j a) (hb:Bd k b) (hj:j≤PRM) (hk:k≤PRM):field_sign2.pre (dI a).1 (dI a).2 (dI b).1 (dI b).2=true:=isSome_of (field_sign2.os ha hb hj hk)
theorem field_sign2.es {j k:Nat} {a b:Int} (ha:Bd j a) (hb:Bd k b) (hj:j≤PRM) (hk:k≤PRM):field_sign2 (dI a).1 (dI a).2 (dI b).1 (dI b).2=sg2 a b:=getD_of (field_sign2.os ha hb hj hk)
end
theorem field_sign2.ok:SOK Tryz.prog 167 (field_sign2.sp field_sign2 field_sign2.pre):=by
 refine sok_of (E:=⟨[(158,bigint_Sign.sp bigint_Sign),(163,bigint_Mul.sp bigint_Mul bigint_Mul.pre),(168,field_mixed.sp field_mixed),(170,field_times.sp field_times field_times.pre),(196,bigint_Cmp.sp bigint_Cmp bigint_Cmp.pre)],[],[]⟩) (L:=[]) ⟨(specs_cons bigint_Sign.ok (specs_cons bigint_Mul.ok (specs_cons field_mixed.ok (specs_cons field_times.ok (specs_cons bigint_Cmp.ok specs_nil))))),inl_nil,mixed_ok,lps_nil⟩ 60 Tryz.func167 (by decide) rfl no_loops fun vs bl v bl' h=> ?_
 unfold field_sign2.sp at h
 split at h
 ·rename_i A3 A2 AD AC
  simp only [Option.some.injEq,Prod.mk.injEq] at h
  obtain ⟨hp,rfl,rfl⟩:=h
  have hr:=field_sign2.run bigint_Sign bigint_Mul bigint_Mul.pre field_mixed field_times field_times.pre bigint_Cmp bigint_Cmp.pre A3 A2 AD AC
  rw [field_sign2.nat] at hr
  obtain ⟨r,h2⟩:=Option.isSome_iff_exists.1 (hp:(field_sign2.o A3 A2 AD AC).isSome=true)
  have h3:field_sign2 A3 A2 AD AC=r:=by unfold field_sign2; rw [h2]; rfl
  have h4:field_sign2.K bigint_Sign bigint_Mul bigint_Mul.pre field_mixed field_times field_times.pre bigint_Cmp bigint_Cmp.pre A3 A2 AD AC some=some r:=h2
  rw [h4,Option.bind_some] at hr
  rw [h3]
  exact ⟨hr,by simp [okV,Nat.blt],clo_spec 8 _ (by kernel_rfl),told_blk (by kernel_rfl)⟩
 ·cases h
section
variable {R:Type} (BN:TF5 (Bool)) (BM:TF5 Bool) (CK:Bool→ByteArray→Bool→ByteArray→(Bool×ByteArray)) (CI:Bool→ByteArray→Bool→ByteArray→Bool) (EC:Bool→ByteArray→Bool→ByteArray→(Int)) (EB:Bool→ByteArray→Bool→ByteArray→Bool) (CG:Int→Int→Int→(Int)) (EP:Bool→ByteArray→Bool→ByteArray→(Bool×ByteArray)) (EO:Bool→ByteArray→Bool→ByteArray→Bool) (CD:Int→Bool→ByteArray→Bool→ByteArray→(Bool×ByteArray)) (CC:Int→Bool→ByteArray→Bool→ByteArray→Bool) (A3:Bool) (A2:ByteArray) (A6:Bool) (A5:ByteArray) (A4:Bool) (A9:ByteArray) (A8:Bool) (A7:ByteArray) (AB:Bool) (AA:ByteArray)
def field_Sign.K (k:(Int)→Option R):Option R:=
 let t0:=BM A3 A2 A6 A5 A4 A9 A8 A7 AB AA
 bif t0 then
 let t1:=BN A3 A2 A6 A5 A4 A9 A8 A7 AB AA
 bif !t1 then k (0) else
 let t2:=EB A3 A2 A6 A5
 bif t2 then
 let t3:=EB A4 A9 A8 A7
 bif t3 then
 let t4:=EC A3 A2 A6 A5
 let t5:=EC A4 A9 A8 A7
 bif t4==t5 then
 let t6:=CG t4 t5 0
 k (t6) else bif t5==0 then
 let t7:=CG t4 t5 0
 k (t7) else bif t4==0 then
 let t8:=CG t4 t5 0
 k (t8) else
 let t9:=CC 1 A3 A2 A3 A2
 bif t9 then
 let t10:=CC 2 A6 A5 A6 A5
 bif t10 then
 let t11:=CD 1 A3 A2 A3 A2
 let t12:=CD 2 A6 A5 A6 A5
 let t13:=CI t11.1 t11.2 t12.1 t12.2
 bif t13 then
 let t14:=CC 3 A4 A9 A4 A9
 bif t14 then
 let t15:=CC 6 A8 A7 A8 A7
 bif t15 then
 let t16:=CD 3 A4 A9 A4 A9
 let t17:=CD 6 A8 A7 A8 A7
 let t18:=CI t16.1 t16.2 t17.1 t17.2
 bif t18 then
 let t19:=CK t11.1 t11.2 t12.1 t12.2
 let t20:=CK t16.1 t16.2 t17.1 t17.2
 let t21:=EO t19.1 t19.2 t20.1 t20.2
 bif t21 then
 let t22:=CC 2 A3 A2 A6 A5
 bif t22 then
 let t23:=CC 6 A4 A9 A8 A7
 bif t23 then
 let t24:=CD 2 A3 A2 A6 A5
 let t25:=CD 6 A4 A9 A8 A7
 let t26:=EO t24.1 t24.2 t25.1 t25.2
 bif t26 then
 let t27:=EP t19.1 t19.2 t20.1 t20.2
 let t28:=EP t24.1 t24.2 t25.1 t25.2
 let t29:=EB t27.1 t27.2 t28.1 t28.2
 bif t29 then
 let t30:=EC t27.1 t27.2 t28.1 t28.2
 let t31:=CG t4 t5 t30
 k (t31) else none else none else none else none else none else none else none else none else none else none else none else none else none else none
theorem field_Sign.run:xfn Tryz.prog ⟨[(109,field_Valid.sp BN BM),(162,bigint_Add.sp CK CI),(167,field_sign2.sp EC EB),(168,field_mixed.sp CG),(169,bigint_Sub.sp EP EO),(170,field_times.sp CD CC)],[],[]⟩ [] 60 Tryz.f116 [.agg ⟨[.bool A3,.string A2,.bool A6,.string A5,.bool A4,.string A9,.bool A8,.string A7,.bool AB,.string AA]⟩] []=field_Sign.K BN BM CK CI EC EB CG EP EO CD CC A3 A2 A6 A5 A4 A9 A8 A7 AB AA (fun r=>some (.int .i64 r,[])):=by kernel_rfl
def field_Sign.o:Option (Int):=field_Sign.K field_Valid field_Valid.pre bigint_Add bigint_Add.pre field_sign2 field_sign2.pre field_mixed bigint_Sub bigint_Sub.pre field_times field_times.pre A3 A2 A6 A5 A4 A9 A8 A7 AB AA some
def field_Sign.pre:Bool:=(field_Sign.o A3 A2 A6 A5 A4 A9 A8 A7 AB AA).isSome
def field_Sign:Int:=(field_Sign.o A3 A2 A6 A5 A4 A9 A8 A7 AB AA).getD default
theorem field_Sign.nat (k:(Int)→Option R):field_Sign.K BN BM CK CI EC EB CG EP EO CD CC A3 A2 A6 A5 A4 A9 A8 A7 AB AA k=(field_Sign.K BN BM CK CI EC EB CG EP EO CD CC A3 A2 A6 A5 A4 A9 A8 A7 AB AA some).bind k:=by
 simp only [field_Sign.K,bcond,Option.bind_some,Option.bind_none]
theorem field_Sign.os {k:Nat} {x:Q} (h:x.Bd k) (hk:2*k+3≤PRM):
  field_Sign.o (dI x.c0).1 (dI x.c0).2 (dI x.c1).1 (dI x.c1).2 (dI x.c2).1 (dI x.c2).2 (dI x.c3).1 (dI x.c3).2 (dI x.d).1 (dI x.d).2=some (bif x.ok then x.sg else 0):=by
 have hk':k≤PRM:=by omega
 have f1:Few6 1:= .inl rfl
 have f2:Few6 2:= .inr (.inl rfl)
 have f3:Few6 3:= .inr (.inr (.inl rfl))
 have f6:Few6 6:= .inr (.inr (.inr rfl))
 have hL:k≤LIM:=by unfold LIM; unfold PRM at hk'; omega
 have v1:=field_Valid.ps h hL
 have v2:=field_Valid.es h hL
 have s1:=field_sign2.ps h.c0 h.c1 hk' hk'
 have s2:=field_sign2.es h.c0 h.c1 hk' hk'
 have s3:=field_sign2.ps h.c2 h.c3 hk' hk'
 have s4:=field_sign2.es h.c2 h.c3 hk' hk'
 have t1:=field_times.ps f1 h.c0 h.c0 hk' hk'
 have t1':=field_times.es f1 h.c0 h.c0 hk' hk'
 have t2:=field_times.ps f2 h.c1 h.c1 hk' hk'
 have t2':=field_times.es f2 h.c1 h.c1 hk' hk'
 have t3:=field_times.ps f3 h.c2 h.c2 hk' hk'
 have t3':=field_times.es f3 h.c2 h.c2 hk' hk'
 have t4:=field_times.ps f6 h.c3 h.c3 hk' hk'
 have t4':=field_times.es f6 h.c3 h.c3 hk' hk'
 have t5:=field_times.ps f2 h.c0 h.c1 hk' hk'
 have t5':=field_times.es f2 h.c0 h.c1 hk' hk'
 have t6:=field_times.ps f6 h.c2 h.c3 hk' hk'
 have t6':=field_times.es f6 h.c2 h.c3 hk' hk'
 have b1:Bd (2*k+1) (1*(x.c0*x.c0)):=((few_bd f1).mul (h.c0.mul h.c0)).mono (by omega)
 have b2:Bd (2*k+1) (2*(x.c1*x.c1)):=((few_bd f2).mul (h.c1.mul h.c1)).mono (by omega)
 have b3:Bd (2*k+1) (3*(x.c2*x.c2)):=((few_bd f3).mul (h.c2.mul h.c2)).mono (by omega)
 have b4:Bd (2*k+1) (6*(x.c3*x.c3)):=((few_bd f6).mul (h.c3.mul h.c3)).mono (by omega)
 have b5:Bd (2*k+1) (2*(x.c0*x.c1)):=((few_bd f2).mul (h.c0.mul h.c1)).mono (by omega)
 have b6:Bd (2*k+1) (6*(x.c2*x.c3)):=((few_bd f6).mul (h.c2.mul h.c3)).mono (by omega)
 unfold PRM at hk
 have a1:=add_pre b1 b2 (by unfold LIM; omega) (by unfold LIM; omega)
 have a2:=add_pre b3 b4 (by unfold LIM; omega) (by unfold LIM; omega)
 have a3:=sub_pre (b1.add b2) (b3.add b4) (by unfold LIM; omega) (by unfold LIM; omega)
 have a4:=sub_pre b5 b6 (by unfold LIM; omega) (by unfold LIM; omega)
 have d1:Bd (2*k+3) (1*(x.c0*x.c0)+2*(x.c1*x.c1)-(3*(x.c2*x.c2)+6*(x.c3*x.c3))):=(b1.add b2).add (b3.add b4).neg
 have d2:Bd (2*k+3) (2*(x.c0*x.c1)-6*(x.c2*x.c3)):=(b5.add b6.neg).mono (by omega)
 have s5:=field_sign2.ps d1 d2 (by unfold PRM; omega) (by unfold PRM; omega)
 have s6:=field_sign2.es d1 d2 (by unfold PRM; omega) (by unfold PRM; omega)
 simp only [field_Sign.o,field_Sign.K,v1,v2,s1,s2,s3,s4,t1,t2,t3,t4,t5,t6,t1',t2',t3',t4',t5',t6',a1,a2,a3,a4,bigint_Add_dI,bigint_Sub_dI,s5,s6,cond_true]
 have m0:field_mixed (sg2 x.c0 x.c1) (sg2 x.c2 x.c3) 0=mix (sg2 x.c0 x.c1) (sg2 x.c2 x.c3) 0:=field_mixed.es (sg2_cases _ _) (.inr (.inl rfl))
 have m1:∀s,(s= -1∨s=0∨s=1)→field_mixed (sg2 x.c0 x.c1) (sg2 x.c2 x.c3) s=mix (sg2 x.c0 x.c1) (sg2 x.c2 x.c3) s:=fun s hs=>field_mixed.es (sg2_cases _ _) hs
 cases hv:x.ok with
 |false=>rfl
 | true=>
  simp only [Bool.not_true,cond_false,cond_true,m0,m1 _ (sg2_cases _ _)]
  show _=some (sgz x.c0 x.c1 x.c2 x.c3)
  unfold sgz
  by_cases e1:sg2 x.c0 x.c1=sg2 x.c2 x.c3
  ·rw [if_pos (.inl e1),e1]; simp
  ·rw [beq_of e1]
   by_cases e2:sg2 x.c2 x.c3=0
   ·rw [if_pos (.inr (.inl e2)),e2]; rfl
   ·rw [beq_of e2]
    by_cases e3:sg2 x.c0 x.c1=0
    ·rw [if_pos (.inr (.inr e3)),e3]; rfl
    ·rw [beq_of e3,if_neg (fun h=>h.elim e1 (fun h=>h.elim e2 e3))]; rfl
theorem field_Sign.ps {k:Nat} {x:Q} (h:x.Bd k) (hk:2*k+3≤PRM):field_Sign.pre (dI x.c0).1 (dI x.c0).2 (dI x.c1).1 (dI x.c1).2 (dI x.c2).1 (dI x.c2).2 (dI x.c3).1 (dI x.c3).2 (dI x.d).1 (dI x.d).2=true:=isSome_of (field_Sign.os h hk)
theorem field_Sign.es {k:Nat} {x:Q} (h:x.Bd k) (hk:2*k+3≤PRM):field_Sign (dI x.c0).1 (dI x.c0).2 (dI x.c1).1 (dI x.c1).2 (dI x.c2).1 (dI x.c2).2 (dI x.c3).1 (dI x.c3).2 (dI x.d).1 (dI x.d).2=bif x.ok then x.sg else 0:=getD_of (field_Sign.os h hk)
end
theorem field_Sign.ok:SOK Tryz.prog 116 (field_Sign.sp field_Sign field_Sign.pre):=by
 refine sok_of (E:=⟨[(109,field_Valid.sp field_Valid field_Valid.pre),(162,bigint_Add.sp bigint_Add bigint_Add.pre),(167,field_sign2.sp field_sign2 field_sign2.pre),(168,field_mixed.sp field_mixed),(169,bigint_Sub.sp bigint_Sub bigint_Sub.pre),(170,field_times.sp field_times field_times.pre)],[],[]⟩) (L:=[]) ⟨(specs_cons field_Valid.ok (specs_cons bigint_Add.ok (specs_cons field_sign2.ok (specs_cons field_mixed.ok (specs_cons bigint_Sub.ok (specs_cons field_times.ok specs_nil)))))),inl_nil,mixed_ok,lps_nil⟩ 60 Tryz.func116 (by decide) rfl no_loops fun vs bl v bl' h=> ?_
 unfold field_Sign.sp at h
 split at h
 ·rename_i A3 A2 A6 A5 A4 A9 A8 A7 AB AA
  simp only [Option.some.injEq,Prod.mk.injEq] at h
  obtain ⟨hp,rfl,rfl⟩:=h
  have hr:=field_Sign.run field_Valid field_Valid.pre bigint_Add bigint_Add.pre field_sign2 field_sign2.pre field_mixed bigint_Sub bigint_Sub.pre field_times field_times.pre A3 A2 A6 A5 A4 A9 A8 A7 AB AA
  rw [field_Sign.nat] at hr
  obtain ⟨r,h2⟩:=Option.isSome_iff_exists.1 (hp:(field_Sign.o A3 A2 A6 A5 A4 A9 A8 A7 AB AA).isSome=true)
  have h3:field_Sign A3 A2 A6 A5 A4 A9 A8 A7 AB AA=r:=by unfold field_Sign; rw [h2]; rfl
  have h4:field_Sign.K field_Valid field_Valid.pre bigint_Add bigint_Add.pre field_sign2 field_sign2.pre field_mixed bigint_Sub bigint_Sub.pre field_times field_times.pre A3 A2 A6 A5 A4 A9 A8 A7 AB AA some=some r:=h2
  rw [h4,Option.bind_some] at hr
  rw [h3]
  exact ⟨hr,by simp [okV,Nat.blt],clo_spec 8 _ (by kernel_rfl),told_blk (by kernel_rfl)⟩
 ·cases h
section
variable {R:Type} (BN:TF5 (Bool)) (BM:TF5 Bool) (CK:Bool→ByteArray→Bool→ByteArray→(Bool×ByteArray)) (CI:Bool→ByteArray→Bool→ByteArray→Bool) (BV:Bool→ByteArray→Bool→ByteArray→(Bool×ByteArray)) (BT:Bool→ByteArray→Bool→ByteArray→Bool) (CV:TF5 (TY5)) (CT:TF5 Bool) (A3:Bool) (A2:ByteArray) (A6:Bool) (A5:ByteArray) (A4:Bool) (A9:ByteArray) (A8:Bool) (A7:ByteArray) (AB:Bool) (AA:ByteArray) (AD:Bool) (AC:ByteArray) (AH:Bool) (AG:ByteArray) (AJ:Bool) (AI:ByteArray) (B7:Bool) (B6:ByteArray) (AF:Bool) (AE:ByteArray)
def field_Add.K (k:TY5→Option R):Option R:=
 let t0:=BM A3 A2 A6 A5 A4 A9 A8 A7 AB AA
 bif t0 then
 let t1:=BN A3 A2 A6 A5 A4 A9 A8 A7 AB AA
 bif !t1 then k (false,{data:= #[]},false,{data:= #[]},false,{data:= #[]},false,{data:= #[]},false,{data:= #[]}) else
 let t2:=BM AD AC AH AG AJ AI B7 B6 AF AE
 bif t2 then
 let t3:=BN AD AC AH AG AJ AI B7 B6 AF AE
 bif !t3 then k (false,{data:= #[]},false,{data:= #[]},false,{data:= #[]},false,{data:= #[]},false,{data:= #[]}) else
 let t4:=BT A3 A2 AF AE
 bif t4 then
 let t5:=BT AD AC AB AA
 bif t5 then
 let t6:=BV A3 A2 AF AE
 let t7:=BV AD AC AB AA
 let t8:=CI t6.1 t6.2 t7.1 t7.2
 bif t8 then
 let t9:=BT A6 A5 AF AE
 bif t9 then
 let t10:=BT AH AG AB AA
 bif t10 then
 let t11:=BV A6 A5 AF AE
 let t12:=BV AH AG AB AA
 let t13:=CI t11.1 t11.2 t12.1 t12.2
 bif t13 then
 let t14:=BT A4 A9 AF AE
 bif t14 then
 let t15:=BT AJ AI AB AA
 bif t15 then
 let t16:=BV A4 A9 AF AE
 let t17:=BV AJ AI AB AA
 let t18:=CI t16.1 t16.2 t17.1 t17.2
 bif t18 then
 let t19:=BT A8 A7 AF AE
 bif t19 then
 let t20:=BT B7 B6 AB AA
 bif t20 then
 let t21:=BV A8 A7 AF AE
 let t22:=BV B7 B6 AB AA
 let t23:=CI t21.1 t21.2 t22.1 t22.2
 bif t23 then
 let t24:=BT AB AA AF AE
 bif t24 then
 let t25:=CK t6.1 t6.2 t7.1 t7.2
 let t26:=CK t11.1 t11.2 t12.1 t12.2
 let t27:=CK t16.1 t16.2 t17.1 t17.2
 let t28:=CK t21.1 t21.2 t22.1 t22.2
 let t29:=BV AB AA AF AE
 let t30:=CT t25.1 t25.2 t26.1 t26.2 t27.1 t27.2 t28.1 t28.2 t29.1 t29.2
 bif t30 then
 let t31:=CV t25.1 t25.2 t26.1 t26.2 t27.1 t27.2 t28.1 t28.2 t29.1 t29.2
 k (t31.1,t31.2.1,t31.2.2.1,t31.2.2.2.1,t31.2.2.2.2.1,t31.2.2.2.2.2.1,t31.2.2.2.2.2.2.1,t31.2.2.2.2.2.2.2.1,t31.2.2.2.2.2.2.2.2.1,t31.2.2.2.2.2.2.2.2.2) else none else none else none else none else none else none else none else none else none else none else none else none else none else none else none else none
theorem field_Add.run:xfn Tryz.prog ⟨[(109,field_Valid.sp BN BM),(162,bigint_Add.sp CK CI),(163,bigint_Mul.sp BV BT),(164,field_lowest.sp CV CT)],[],[]⟩ [] 60 Tryz.f112 [.agg ⟨[.bool A3,.string A2,.bool A6,.string A5,.bool A4,.string A9,.bool A8,.string A7,.bool AB,.string AA]⟩,.agg ⟨[.bool AD,.string AC,.bool AH,.string AG,.bool AJ,.string AI,.bool B7,.string B6,.bool AF,.string AE]⟩] []=field_Add.K BN BM CK CI BV BT CV CT A3 A2 A6 A5 A4 A9 A8 A7 AB AA AD AC AH AG AJ AI B7 B6 AF AE (fun r=>some (.agg ⟨[.bool r.1,.string r.2.1,.bool r.2.2.1,.string r.2.2.2.1,.bool r.2.2.2.2.1,.string r.2.2.2.2.2.1,.bool r.2.2.2.2.2.2.1,.string r.2.2.2.2.2.2.2.1,.bool r.2.2.2.2.2.2.2.2.1,.string r.2.2.2.2.2.2.2.2.2]⟩,[])):=by kernel_rfl
def field_Add.o:Option (TY5):=field_Add.K field_Valid field_Valid.pre bigint_Add bigint_Add.pre bigint_Mul bigint_Mul.pre field_lowest field_lowest.pre A3 A2 A6 A5 A4 A9 A8 A7 AB AA AD AC AH AG AJ AI B7 B6 AF AE some
def field_Add.pre:Bool:=(field_Add.o A3 A2 A6 A5 A4 A9 A8 A7 AB AA AD AC AH AG AJ AI B7 B6 AF AE).isSome
def field_Add:TY5:=(field_Add.o A3 A2 A6 A5 A4 A9 A8 A7 AB AA AD AC AH AG AJ AI B7 B6 AF AE).getD default
theorem field_Add.nat (k:TY5→Option R):field_Add.K BN BM CK CI BV BT CV CT A3 A2 A6 A5 A4 A9 A8 A7 AB AA AD AC AH AG AJ AI B7 B6 AF AE k=(field_Add.K BN BM CK CI BV BT CV CT A3 A2 A6 A5 A4 A9 A8 A7 AB AA AD AC AH AG AJ AI B7 B6 AF AE some).bind k:=by
 simp only [field_Add.K,bcond,Option.bind_some,Option.bind_none]
theorem field_Add.os {j k:Nat} {x y:Q} (hx:x.Bd j) (hy:y.Bd k) (hj:j≤PRM) (hk:k≤PRM):
  field_Add.o (dI x.c0).1 (dI x.c0).2 (dI x.c1).1 (dI x.c1).2 (dI x.c2).1 (dI x.c2).2 (dI x.c3).1 (dI x.c3).2 (dI x.d).1 (dI x.d).2 (dI y.c0).1 (dI y.c0).2 (dI y.c1).1 (dI y.c1).2 (dI y.c2).1 (dI y.c2).2 (dI y.c3).1 (dI y.c3).2 (dI y.d).1 (dI y.d).2=some (C5 (bif x.ok&&y.ok then qadd x y else Q.zero)):=by
 unfold PRM at hj hk
 have hL:j≤LIM:=by unfold LIM; omega
 have hM:k≤LIM:=by unfold LIM; omega
 have v1:=field_Valid.ps hx hL
 have v2:=field_Valid.es hx hL
 have v3:=field_Valid.ps hy hM
 have v4:=field_Valid.es hy hM
 simp only [field_Add.o,field_Add.K,v1,v2,v3,v4,cond_true]
 cases ox:x.ok with
 |false=>simp only [Bool.not_false,cond_true,Bool.false_and,cond_false,C5_zero]
 |true=>
 cases oy:y.ok with
 |false=>simp only [Bool.not_true,Bool.not_false,cond_true,Bool.and_false,cond_false,C5_zero]
 |true=>
 have m:∀ {a b:Int},Bd j a→Bd k b→bigint_Mul.pre (dI a).1 (dI a).2 (dI b).1 (dI b).2=true:=fun ha hb=>mul_pre ha hb hL hM
 have m':∀ {a b:Int},Bd k a→Bd j b→bigint_Mul.pre (dI a).1 (dI a).2 (dI b).1 (dI b).2=true:=fun ha hb=>mul_pre ha hb hM hL
 have ad:∀ {a b c d:Int},Bd j a→Bd k b→Bd k c→Bd j d→bigint_Add.pre (dI (a*b)).1 (dI (a*b)).2 (dI (c*d)).1 (dI (c*d)).2=true:=fun ha hb hc hd=>add_pre (ha.mul hb) (hc.mul hd) (by unfold LIM; omega) (by unfold LIM; omega)
 have l1:=field_lowest.ps (q:=qsum x y) (qsum_bd hx hy) (by unfold LIM; omega) (dd_ne ox oy)
 have l2:=field_lowest.es (q:=qsum x y) (qsum_bd hx hy) (by unfold LIM; omega) (dd_ne ox oy)
 simp only [qsum] at l1 l2
 simp only [Bool.not_true,cond_false,m hx.c0 hy.d,m' hy.c0 hx.d,m hx.c1 hy.d,m' hy.c1 hx.d,m hx.c2 hy.d,m' hy.c2 hx.d,m hx.c3 hy.d,m' hy.c3 hx.d,m hx.d hy.d,bigint_Mul_dI,ad hx.c0 hy.d hy.c0 hx.d,ad hx.c1 hy.d hy.c1 hx.d,ad hx.c2 hy.d hy.c2 hx.d,ad hx.c3 hy.d hy.c3 hx.d,bigint_Add_dI,l1,l2,cond_true,Bool.and_self]
 rfl
theorem field_Add.ps {j k:Nat} {x y:Q} (hx:x.Bd j) (hy:y.Bd k) (hj:j≤PRM) (hk:k≤PRM):field_Add.pre (dI x.c0).1 (dI x.c0).2 (dI x.c1).1 (dI x.c1).2 (dI x.c2).1 (dI x.c2).2 (dI x.c3).1 (dI x.c3).2 (dI x.d).1 (dI x.d).2 (dI y.c0).1 (dI y.c0).2 (dI y.c1).1 (dI y.c1).2 (dI y.c2).1 (dI y.c2).2 (dI y.c3).1 (dI y.c3).2 (dI y.d).1 (dI y.d).2=true:=isSome_of (field_Add.os hx hy hj hk)
theorem field_Add.es {j k:Nat} {x y:Q} (hx:x.Bd j) (hy:y.Bd k) (hj:j≤PRM) (hk:k≤PRM):field_Add (dI x.c0).1 (dI x.c0).2 (dI x.c1).1 (dI x.c1).2 (dI x.c2).1 (dI x.c2).2 (dI x.c3).1 (dI x.c3).2 (dI x.d).1 (dI x.d).2 (dI y.c0).1 (dI y.c0).2 (dI y.c1).1 (dI y.c1).2 (dI y.c2).1 (dI y.c2).2 (dI y.c3).1 (dI y.c3).2 (dI y.d).1 (dI y.d).2=C5 (bif x.ok&&y.ok then qadd x y else Q.zero):=getD_of (field_Add.os hx hy hj hk)
end
theorem field_Add.ok:SOK Tryz.prog 112 (field_Add.sp field_Add field_Add.pre):=by
 refine sok_of (E:=⟨[(109,field_Valid.sp field_Valid field_Valid.pre),(162,bigint_Add.sp bigint_Add bigint_Add.pre),(163,bigint_Mul.sp bigint_Mul bigint_Mul.pre),(164,field_lowest.sp field_lowest field_lowest.pre)],[],[]⟩) (L:=[]) ⟨(specs_cons field_Valid.ok (specs_cons bigint_Add.ok (specs_cons bigint_Mul.ok (specs_cons field_lowest.ok specs_nil)))),inl_nil,mixed_ok,lps_nil⟩ 60 Tryz.func112 (by decide) rfl no_loops fun vs bl v bl' h=> ?_
 unfold field_Add.sp at h
 split at h
 ·rename_i A3 A2 A6 A5 A4 A9 A8 A7 AB AA AD AC AH AG AJ AI B7 B6 AF AE
  simp only [Option.some.injEq,Prod.mk.injEq] at h
  obtain ⟨hp,rfl,rfl⟩:=h
  have hr:=field_Add.run field_Valid field_Valid.pre bigint_Add bigint_Add.pre bigint_Mul bigint_Mul.pre field_lowest field_lowest.pre A3 A2 A6 A5 A4 A9 A8 A7 AB AA AD AC AH AG AJ AI B7 B6 AF AE
  rw [field_Add.nat] at hr
  obtain ⟨r,h2⟩:=Option.isSome_iff_exists.1 (hp:(field_Add.o A3 A2 A6 A5 A4 A9 A8 A7 AB AA AD AC AH AG AJ AI B7 B6 AF AE).isSome=true)
  have h3:field_Add A3 A2 A6 A5 A4 A9 A8 A7 AB AA AD AC AH AG AJ AI B7 B6 AF AE=r:=by unfold field_Add; rw [h2]; rfl
  have h4:field_Add.K field_Valid field_Valid.pre bigint_Add bigint_Add.pre bigint_Mul bigint_Mul.pre field_lowest field_lowest.pre A3 A2 A6 A5 A4 A9 A8 A7 AB AA AD AC AH AG AJ AI B7 B6 AF AE some=some r:=h2
  rw [h4,Option.bind_some] at hr
  rw [h3]
  exact ⟨hr,by simp [okV,Nat.blt],clo_spec 8 _ (by kernel_rfl),told_blk (by kernel_rfl)⟩
 ·cases h
section
variable {R:Type} (BN:TF5 (Bool)) (BM:TF5 Bool) (BW:Bool→ByteArray→(Bool×ByteArray)) (A3:Bool) (A2:ByteArray) (A6:Bool) (A5:ByteArray) (A4:Bool) (A9:ByteArray) (A8:Bool) (A7:ByteArray) (AB:Bool) (AA:ByteArray)
def field_Neg.K (k:TY5→Option R):Option R:=
 let t0:=BM A3 A2 A6 A5 A4 A9 A8 A7 AB AA
 bif t0 then
 let t1:=BN A3 A2 A6 A5 A4 A9 A8 A7 AB AA
 bif !t1 then k (false,{data:= #[]},false,{data:= #[]},false,{data:= #[]},false,{data:= #[]},false,{data:= #[]}) else
 let t2:=BW A3 A2
 let t3:=BW A6 A5
 let t4:=BW A4 A9
 let t5:=BW A8 A7
 k (t2.1,t2.2,t3.1,t3.2,t4.1,t4.2,t5.1,t5.2,AB,AA) else none
theorem field_Neg.run:xfn Tryz.prog ⟨[(109,field_Valid.sp BN BM),(193,bigint_Neg.sp BW)],[],[]⟩ [] 60 Tryz.f195 [.agg ⟨[.bool A3,.string A2,.bool A6,.string A5,.bool A4,.string A9,.bool A8,.string A7,.bool AB,.string AA]⟩] []=field_Neg.K BN BM BW A3 A2 A6 A5 A4 A9 A8 A7 AB AA (fun r=>some (.agg ⟨[.bool r.1,.string r.2.1,.bool r.2.2.1,.string r.2.2.2.1,.bool r.2.2.2.2.1,.string r.2.2.2.2.2.1,.bool r.2.2.2.2.2.2.1,.string r.2.2.2.2.2.2.2.1,.bool r.2.2.2.2.2.2.2.2.1,.string r.2.2.2.2.2.2.2.2.2]⟩,[])):=by kernel_rfl
def field_Neg.o:Option (TY5):=field_Neg.K field_Valid field_Valid.pre bigint_Neg A3 A2 A6 A5 A4 A9 A8 A7 AB AA some
def field_Neg.pre:Bool:=(field_Neg.o A3 A2 A6 A5 A4 A9 A8 A7 AB AA).isSome
def field_Neg:TY5:=(field_Neg.o A3 A2 A6 A5 A4 A9 A8 A7 AB AA).getD default
theorem field_Neg.nat (k:TY5→Option R):field_Neg.K BN BM BW A3 A2 A6 A5 A4 A9 A8 A7 AB AA k=(field_Neg.K BN BM BW A3 A2 A6 A5 A4 A9 A8 A7 AB AA some).bind k:=by
 simp only [field_Neg.K,bcond,Option.bind_some,Option.bind_none]
theorem field_Neg.os {k:Nat} {x:Q} (h:x.Bd k) (hk:k≤PRM):field_Neg.o (dI x.c0).1 (dI x.c0).2 (dI x.c1).1 (dI x.c1).2 (dI x.c2).1 (dI x.c2).2 (dI x.c3).1 (dI x.c3).2 (dI x.d).1 (dI x.d).2=some (C5 (bif x.ok then qneg x else Q.zero)):=by
 have hL:k≤LIM:=by unfold LIM; unfold PRM at hk; omega
 simp only [field_Neg.o,field_Neg.K,field_Valid.ps h hL,field_Valid.es h hL,bigint_Neg_dI,cond_true]
 cases x.ok with
 |false=>simp only [Bool.not_false,cond_true,cond_false,C5_zero]
 |true=>rfl
theorem field_Neg.ps {k:Nat} {x:Q} (h:x.Bd k) (hk:k≤PRM):field_Neg.pre (dI x.c0).1 (dI x.c0).2 (dI x.c1).1 (dI x.c1).2 (dI x.c2).1 (dI x.c2).2 (dI x.c3).1 (dI x.c3).2 (dI x.d).1 (dI x.d).2=true:=isSome_of (field_Neg.os h hk)
theorem field_Neg.es {k:Nat} {x:Q} (h:x.Bd k) (hk:k≤PRM):field_Neg (dI x.c0).1 (dI x.c0).2 (dI x.c1).1 (dI x.c1).2 (dI x.c2).1 (dI x.c2).2 (dI x.c3).1 (dI x.c3).2 (dI x.d).1 (dI x.d).2=C5 (bif x.ok then qneg x else Q.zero):=getD_of (field_Neg.os h hk)
end
theorem field_Neg.ok:SOK Tryz.prog 195 (field_Neg.sp field_Neg field_Neg.pre):=by
 refine sok_of (E:=⟨[(109,field_Valid.sp field_Valid field_Valid.pre),(193,bigint_Neg.sp bigint_Neg)],[],[]⟩) (L:=[]) ⟨(specs_cons field_Valid.ok (specs_cons bigint_Neg.ok specs_nil)),inl_nil,mixed_ok,lps_nil⟩ 60 Tryz.func195 (by decide) rfl no_loops fun vs bl v bl' h=> ?_
 unfold field_Neg.sp at h
 split at h
 ·rename_i A3 A2 A6 A5 A4 A9 A8 A7 AB AA
  simp only [Option.some.injEq,Prod.mk.injEq] at h
  obtain ⟨hp,rfl,rfl⟩:=h
  have hr:=field_Neg.run field_Valid field_Valid.pre bigint_Neg A3 A2 A6 A5 A4 A9 A8 A7 AB AA
  rw [field_Neg.nat] at hr
  obtain ⟨r,h2⟩:=Option.isSome_iff_exists.1 (hp:(field_Neg.o A3 A2 A6 A5 A4 A9 A8 A7 AB AA).isSome=true)
  have h3:field_Neg A3 A2 A6 A5 A4 A9 A8 A7 AB AA=r:=by unfold field_Neg; rw [h2]; rfl
  have h4:field_Neg.K field_Valid field_Valid.pre bigint_Neg A3 A2 A6 A5 A4 A9 A8 A7 AB AA some=some r:=h2
  rw [h4,Option.bind_some] at hr
  rw [h3]
  exact ⟨hr,by simp [okV,Nat.blt],clo_spec 8 _ (by kernel_rfl),told_blk (by kernel_rfl)⟩
 ·cases h
section
variable {R:Type} (CM:TF10 (TY5)) (CL:TF10 Bool) (F2:TF5 (TY5)) (EY:TF5 Bool) (A3:Bool) (A2:ByteArray) (A6:Bool) (A5:ByteArray) (A4:Bool) (A9:ByteArray) (A8:Bool) (A7:ByteArray) (AB:Bool) (AA:ByteArray) (AD:Bool) (AC:ByteArray) (AH:Bool) (AG:ByteArray) (AJ:Bool) (AI:ByteArray) (B7:Bool) (B6:ByteArray) (AF:Bool) (AE:ByteArray)
def field_Sub.K (k:TY5→Option R):Option R:=
 let t0:=EY AD AC AH AG AJ AI B7 B6 AF AE
 bif t0 then
 let t1:=F2 AD AC AH AG AJ AI B7 B6 AF AE
 let t2:=CL A3 A2 A6 A5 A4 A9 A8 A7 AB AA t1.1 t1.2.1 t1.2.2.1 t1.2.2.2.1 t1.2.2.2.2.1 t1.2.2.2.2.2.1 t1.2.2.2.2.2.2.1 t1.2.2.2.2.2.2.2.1 t1.2.2.2.2.2.2.2.2.1 t1.2.2.2.2.2.2.2.2.2
 bif t2 then
 let t3:=CM A3 A2 A6 A5 A4 A9 A8 A7 AB AA t1.1 t1.2.1 t1.2.2.1 t1.2.2.2.1 t1.2.2.2.2.1 t1.2.2.2.2.2.1 t1.2.2.2.2.2.2.1 t1.2.2.2.2.2.2.2.1 t1.2.2.2.2.2.2.2.2.1 t1.2.2.2.2.2.2.2.2.2
 k (t3.1,t3.2.1,t3.2.2.1,t3.2.2.2.1,t3.2.2.2.2.1,t3.2.2.2.2.2.1,t3.2.2.2.2.2.2.1,t3.2.2.2.2.2.2.2.1,t3.2.2.2.2.2.2.2.2.1,t3.2.2.2.2.2.2.2.2.2) else none else none
theorem field_Sub.run:xfn Tryz.prog ⟨[(112,field_Add.sp CM CL),(195,field_Neg.sp F2 EY)],[],[]⟩ [] 60 Tryz.f166 [.agg ⟨[.bool A3,.string A2,.bool A6,.string A5,.bool A4,.string A9,.bool A8,.string A7,.bool AB,.string AA]⟩,.agg ⟨[.bool AD,.string AC,.bool AH,.string AG,.bool AJ,.string AI,.bool B7,.string B6,.bool AF,.string AE]⟩] []=field_Sub.K CM CL F2 EY A3 A2 A6 A5 A4 A9 A8 A7 AB AA AD AC AH AG AJ AI B7 B6 AF AE (fun r=>some (.agg ⟨[.bool r.1,.string r.2.1,.bool r.2.2.1,.string r.2.2.2.1,.bool r.2.2.2.2.1,.string r.2.2.2.2.2.1,.bool r.2.2.2.2.2.2.1,.string r.2.2.2.2.2.2.2.1,.bool r.2.2.2.2.2.2.2.2.1,.string r.2.2.2.2.2.2.2.2.2]⟩,[])):=by kernel_rfl
def field_Sub.o:Option (TY5):=field_Sub.K field_Add field_Add.pre field_Neg field_Neg.pre A3 A2 A6 A5 A4 A9 A8 A7 AB AA AD AC AH AG AJ AI B7 B6 AF AE some
def field_Sub.pre:Bool:=(field_Sub.o A3 A2 A6 A5 A4 A9 A8 A7 AB AA AD AC AH AG AJ AI B7 B6 AF AE).isSome
def field_Sub:TY5:=(field_Sub.o A3 A2 A6 A5 A4 A9 A8 A7 AB AA AD AC AH AG AJ AI B7 B6 AF AE).getD default
theorem field_Sub.nat (k:TY5→Option R):field_Sub.K CM CL F2 EY A3 A2 A6 A5 A4 A9 A8 A7 AB AA AD AC AH AG AJ AI B7 B6 AF AE k=(field_Sub.K CM CL F2 EY A3 A2 A6 A5 A4 A9 A8 A7 AB AA AD AC AH AG AJ AI B7 B6 AF AE some).bind k:=by
 simp only [field_Sub.K,bcond,Option.bind_some,Option.bind_none]
theorem field_Sub.os {j k:Nat} {x y:Q} (hx:x.Bd j) (hy:y.Bd k) (hj:j≤PRM) (hk:k≤PRM):field_Sub.o (dI x.c0).1 (dI x.c0).2 (dI x.c1).1 (dI x.c1).2 (dI x.c2).1 (dI x.c2).2 (dI x.c3).1 (dI x.c3).2 (dI x.d).1 (dI x.d).2 (dI y.c0).1 (dI y.c0).2 (dI y.c1).1 (dI y.c1).2 (dI y.c2).1 (dI y.c2).2 (dI y.c3).1 (dI y.c3).2 (dI y.d).1 (dI y.d).2=some (C5 (bif x.ok&&y.ok then qsub x y else Q.zero)):=by
 have n1:=field_Neg.ps hy hk
 have n2:=field_Neg.es hy hk
 cases oy:y.ok with
 | true=>
  rw [oy,cond_true] at n2
  have a1:=field_Add.ps hx (qneg_bd hy) hj hk
  have a2:=field_Add.es hx (qneg_bd hy) hj hk
  rw [qneg_ok,oy] at a2
  simp only [field_Sub.o,field_Sub.K,n1,n2,C5,a1,a2,cond_true]
  rfl
 | false=>
  rw [oy,cond_false] at n2
  have a1:=field_Add.ps hx (zero_bd k) hj hk
  have a2:=field_Add.es hx (zero_bd k) hj hk
  rw [zero_ok] at a2
  simp only [field_Sub.o,field_Sub.K,n1,n2,C5,a1,a2,cond_true,Bool.and_false,cond_false]
theorem field_Sub.ps {j k:Nat} {x y:Q} (hx:x.Bd j) (hy:y.Bd k) (hj:j≤PRM) (hk:k≤PRM):field_Sub.pre (dI x.c0).1 (dI x.c0).2 (dI x.c1).1 (dI x.c1).2 (dI x.c2).1 (dI x.c2).2 (dI x.c3).1 (dI x.c3).2 (dI x.d).1 (dI x.d).2 (dI y.c0).1 (dI y.c0).2 (dI y.c1).1 (dI y.c1).2 (dI y.c2).1 (dI y.c2).2 (dI y.c3).1 (dI y.c3).2 (dI y.d).1 (dI y.d).2=true:=isSome_of (field_Sub.os hx hy hj hk)
theorem field_Sub.es {j k:Nat} {x y:Q} (hx:x.Bd j) (hy:y.Bd k) (hj:j≤PRM) (hk:k≤PRM):field_Sub (dI x.c0).1 (dI x.c0).2 (dI x.c1).1 (dI x.c1).2 (dI x.c2).1 (dI x.c2).2 (dI x.c3).1 (dI x.c3).2 (dI x.d).1 (dI x.d).2 (dI y.c0).1 (dI y.c0).2 (dI y.c1).1 (dI y.c1).2 (dI y.c2).1 (dI y.c2).2 (dI y.c3).1 (dI y.c3).2 (dI y.d).1 (dI y.d).2=C5 (bif x.ok&&y.ok then qsub x y else Q.zero):=getD_of (field_Sub.os hx hy hj hk)
end
theorem field_Sub.ok:SOK Tryz.prog 166 (field_Sub.sp field_Sub field_Sub.pre):=by
 refine sok_of (E:=⟨[(112,field_Add.sp field_Add field_Add.pre),(195,field_Neg.sp field_Neg field_Neg.pre)],[],[]⟩) (L:=[]) ⟨(specs_cons field_Add.ok (specs_cons field_Neg.ok specs_nil)),inl_nil,mixed_ok,lps_nil⟩ 60 Tryz.func166 (by decide) rfl no_loops fun vs bl v bl' h=> ?_
 unfold field_Sub.sp at h
 split at h
 ·rename_i A3 A2 A6 A5 A4 A9 A8 A7 AB AA AD AC AH AG AJ AI B7 B6 AF AE
  simp only [Option.some.injEq,Prod.mk.injEq] at h
  obtain ⟨hp,rfl,rfl⟩:=h
  have hr:=field_Sub.run field_Add field_Add.pre field_Neg field_Neg.pre A3 A2 A6 A5 A4 A9 A8 A7 AB AA AD AC AH AG AJ AI B7 B6 AF AE
  rw [field_Sub.nat] at hr
  obtain ⟨r,h2⟩:=Option.isSome_iff_exists.1 (hp:(field_Sub.o A3 A2 A6 A5 A4 A9 A8 A7 AB AA AD AC AH AG AJ AI B7 B6 AF AE).isSome=true)
  have h3:field_Sub A3 A2 A6 A5 A4 A9 A8 A7 AB AA AD AC AH AG AJ AI B7 B6 AF AE=r:=by unfold field_Sub; rw [h2]; rfl
  have h4:field_Sub.K field_Add field_Add.pre field_Neg field_Neg.pre A3 A2 A6 A5 A4 A9 A8 A7 AB AA AD AC AH AG AJ AI B7 B6 AF AE some=some r:=h2
  rw [h4,Option.bind_some] at hr
  rw [h3]
  exact ⟨hr,by simp [okV,Nat.blt],clo_spec 8 _ (by kernel_rfl),told_blk (by kernel_rfl)⟩
 ·cases h
section
variable {R:Type} (D8:TF5 (Int)) (D6:TF5 Bool) (F1:TF10 (TY5)) (EX:TF10 Bool) (A3:Bool) (A2:ByteArray) (A6:Bool) (A5:ByteArray) (A4:Bool) (A9:ByteArray) (A8:Bool) (A7:ByteArray) (AB:Bool) (AA:ByteArray) (AD:Bool) (AC:ByteArray) (AH:Bool) (AG:ByteArray) (AJ:Bool) (AI:ByteArray) (B7:Bool) (B6:ByteArray) (AF:Bool) (AE:ByteArray)
def field_Cmp.K (k:(Int)→Option R):Option R:=
 let t0:=EX A3 A2 A6 A5 A4 A9 A8 A7 AB AA AD AC AH AG AJ AI B7 B6 AF AE
 bif t0 then
 let t1:=F1 A3 A2 A6 A5 A4 A9 A8 A7 AB AA AD AC AH AG AJ AI B7 B6 AF AE
 let t2:=D6 t1.1 t1.2.1 t1.2.2.1 t1.2.2.2.1 t1.2.2.2.2.1 t1.2.2.2.2.2.1 t1.2.2.2.2.2.2.1 t1.2.2.2.2.2.2.2.1 t1.2.2.2.2.2.2.2.2.1 t1.2.2.2.2.2.2.2.2.2
 bif t2 then
 let t3:=D8 t1.1 t1.2.1 t1.2.2.1 t1.2.2.2.1 t1.2.2.2.2.1 t1.2.2.2.2.2.1 t1.2.2.2.2.2.2.1 t1.2.2.2.2.2.2.2.1 t1.2.2.2.2.2.2.2.2.1 t1.2.2.2.2.2.2.2.2.2
 k (t3) else none else none
theorem field_Cmp.run:xfn Tryz.prog ⟨[(116,field_Sign.sp D8 D6),(166,field_Sub.sp F1 EX)],[],[]⟩ [] 60 Tryz.f115 [.agg ⟨[.bool A3,.string A2,.bool A6,.string A5,.bool A4,.string A9,.bool A8,.string A7,.bool AB,.string AA]⟩,.agg ⟨[.bool AD,.string AC,.bool AH,.string AG,.bool AJ,.string AI,.bool B7,.string B6,.bool AF,.string AE]⟩] []=field_Cmp.K D8 D6 F1 EX A3 A2 A6 A5 A4 A9 A8 A7 AB AA AD AC AH AG AJ AI B7 B6 AF AE (fun r=>some (.int .i64 r,[])):=by kernel_rfl
def field_Cmp.o:Option (Int):=field_Cmp.K field_Sign field_Sign.pre field_Sub field_Sub.pre A3 A2 A6 A5 A4 A9 A8 A7 AB AA AD AC AH AG AJ AI B7 B6 AF AE some
def field_Cmp.pre:Bool:=(field_Cmp.o A3 A2 A6 A5 A4 A9 A8 A7 AB AA AD AC AH AG AJ AI B7 B6 AF AE).isSome
def field_Cmp:Int:=(field_Cmp.o A3 A2 A6 A5 A4 A9 A8 A7 AB AA AD AC AH AG AJ AI B7 B6 AF AE).getD default
theorem field_Cmp.nat (k:(Int)→Option R):field_Cmp.K D8 D6 F1 EX A3 A2 A6 A5 A4 A9 A8 A7 AB AA AD AC AH AG AJ AI B7 B6 AF AE k=(field_Cmp.K D8 D6 F1 EX A3 A2 A6 A5 A4 A9 A8 A7 AB AA AD AC AH AG AJ AI B7 B6 AF AE some).bind k:=by
 simp only [field_Cmp.K,bcond,Option.bind_some,Option.bind_none]
theorem field_Cmp.os {j k:Nat} {x y:Q} (hx:x.Bd j) (hy:y.Bd k) (h:2*(j+k)+5≤PRM):field_Cmp.o (dI x.c0).1 (dI x.c0).2 (dI x.c1).1 (dI x.c1).2 (dI x.c2).1 (dI x.c2).2 (dI x.c3).1 (dI x.c3).2 (dI x.d).1 (dI x.d).2 (dI y.c0).1 (dI y.c0).2 (dI y.c1).1 (dI y.c1).2 (dI y.c2).1 (dI y.c2).2 (dI y.c3).1 (dI y.c3).2 (dI y.d).1 (dI y.d).2=some (bif x.ok&&y.ok then (qsub x y).sg else 0):=by
 have n1:=field_Sub.ps hx hy (by omega) (by omega)
 have n2:=field_Sub.es hx hy (by omega) (by omega)
 cases ho:x.ok&&y.ok with
 | true=>
  rw [ho,cond_true] at n2
  simp only [Bool.and_eq_true] at ho
  have oq:(qsub x y).ok=true:=qadd_ok ho.1 (by rw [qneg_ok]; exact ho.2)
  have bq:(qsub x y).Bd (j+k+1):=qadd_bd hx (qneg_bd hy) ho.1 (by rw [qneg_ok]; exact ho.2)
  have s1:=field_Sign.ps bq (by omega)
  have s2:=field_Sign.es bq (by omega)
  rw [oq] at s2
  simp only [field_Cmp.o,field_Cmp.K,n1,n2,C5,s1,s2,cond_true]
 | false=>
  rw [ho,cond_false] at n2
  have s1:=field_Sign.ps (zero_bd 0) (by omega)
  have s2:=field_Sign.es (zero_bd 0) (by omega)
  rw [zero_ok] at s2
  simp only [field_Cmp.o,field_Cmp.K,n1,n2,C5,s1,s2,cond_true,cond_false]
theorem field_Cmp.ps {j k:Nat} {x y:Q} (hx:x.Bd j) (hy:y.Bd k) (h:2*(j+k)+5≤PRM):field_Cmp.pre (dI x.c0).1 (dI x.c0).2 (dI x.c1).1 (dI x.c1).2 (dI x.c2).1 (dI x.c2).2 (dI x.c3).1 (dI x.c3).2 (dI x.d).1 (dI x.d).2 (dI y.c0).1 (dI y.c0).2 (dI y.c1).1 (dI y.c1).2 (dI y.c2).1 (dI y.c2).2 (dI y.c3).1 (dI y.c3).2 (dI y.d).1 (dI y.d).2=true:=isSome_of (field_Cmp.os hx hy h)
theorem field_Cmp.es {j k:Nat} {x y:Q} (hx:x.Bd j) (hy:y.Bd k) (h:2*(j+k)+5≤PRM):field_Cmp (dI x.c0).1 (dI x.c0).2 (dI x.c1).1 (dI x.c1).2 (dI x.c2).1 (dI x.c2).2 (dI x.c3).1 (dI x.c3).2 (dI x.d).1 (dI x.d).2 (dI y.c0).1 (dI y.c0).2 (dI y.c1).1 (dI y.c1).2 (dI y.c2).1 (dI y.c2).2 (dI y.c3).1 (dI y.c3).2 (dI y.d).1 (dI y.d).2=bif x.ok&&y.ok then (qsub x y).sg else 0:=getD_of (field_Cmp.os hx hy h)
end
theorem field_Cmp.ok:SOK Tryz.prog 115 (field_Cmp.sp field_Cmp field_Cmp.pre):=by
 refine sok_of (E:=⟨[(116,field_Sign.sp field_Sign field_Sign.pre),(166,field_Sub.sp field_Sub field_Sub.pre)],[],[]⟩) (L:=[]) ⟨(specs_cons field_Sign.ok (specs_cons field_Sub.ok specs_nil)),inl_nil,mixed_ok,lps_nil⟩ 60 Tryz.func115 (by decide) rfl no_loops fun vs bl v bl' h=> ?_
 unfold field_Cmp.sp at h
 split at h
 ·rename_i A3 A2 A6 A5 A4 A9 A8 A7 AB AA AD AC AH AG AJ AI B7 B6 AF AE
  simp only [Option.some.injEq,Prod.mk.injEq] at h
  obtain ⟨hp,rfl,rfl⟩:=h
  have hr:=field_Cmp.run field_Sign field_Sign.pre field_Sub field_Sub.pre A3 A2 A6 A5 A4 A9 A8 A7 AB AA AD AC AH AG AJ AI B7 B6 AF AE
  rw [field_Cmp.nat] at hr
  obtain ⟨r,h2⟩:=Option.isSome_iff_exists.1 (hp:(field_Cmp.o A3 A2 A6 A5 A4 A9 A8 A7 AB AA AD AC AH AG AJ AI B7 B6 AF AE).isSome=true)
  have h3:field_Cmp A3 A2 A6 A5 A4 A9 A8 A7 AB AA AD AC AH AG AJ AI B7 B6 AF AE=r:=by unfold field_Cmp; rw [h2]; rfl
  have h4:field_Cmp.K field_Sign field_Sign.pre field_Sub field_Sub.pre A3 A2 A6 A5 A4 A9 A8 A7 AB AA AD AC AH AG AJ AI B7 B6 AF AE some=some r:=h2
  rw [h4,Option.bind_some] at hr
  rw [h3]
  exact ⟨hr,by simp [okV,Nat.blt],clo_spec 8 _ (by kernel_rfl),told_blk (by kernel_rfl)⟩
 ·cases h
section
variable {R:Type} (BN:TF5 (Bool)) (BM:TF5 Bool) (C6:TF10 (TY5)) (C4:TF10 Bool) (A3:Bool) (A2:ByteArray) (A6:Bool) (A5:ByteArray) (A4:Bool) (A9:ByteArray) (A8:Bool) (A7:ByteArray) (AB:Bool) (AA:ByteArray) (AD:Bool) (AC:ByteArray) (AH:Bool) (AG:ByteArray) (AJ:Bool) (AI:ByteArray) (B7:Bool) (B6:ByteArray) (AF:Bool) (AE:ByteArray)
def field_Mul.K (k:TY5→Option R):Option R:=
 let t0:=BM A3 A2 A6 A5 A4 A9 A8 A7 AB AA
 bif t0 then
 let t1:=BN A3 A2 A6 A5 A4 A9 A8 A7 AB AA
 bif !t1 then k (false,{data:= #[]},false,{data:= #[]},false,{data:= #[]},false,{data:= #[]},false,{data:= #[]}) else
 let t2:=BM AD AC AH AG AJ AI B7 B6 AF AE
 bif t2 then
 let t3:=BN AD AC AH AG AJ AI B7 B6 AF AE
 bif !t3 then k (false,{data:= #[]},false,{data:= #[]},false,{data:= #[]},false,{data:= #[]},false,{data:= #[]}) else
 let t4:=C4 A3 A2 A6 A5 A4 A9 A8 A7 AB AA AD AC AH AG AJ AI B7 B6 AF AE
 bif t4 then
 let t5:=C6 A3 A2 A6 A5 A4 A9 A8 A7 AB AA AD AC AH AG AJ AI B7 B6 AF AE
 k (t5.1,t5.2.1,t5.2.2.1,t5.2.2.2.1,t5.2.2.2.2.1,t5.2.2.2.2.2.1,t5.2.2.2.2.2.2.1,t5.2.2.2.2.2.2.2.1,t5.2.2.2.2.2.2.2.2.1,t5.2.2.2.2.2.2.2.2.2) else none else none else none
theorem field_Mul.run:xfn Tryz.prog ⟨[(109,field_Valid.sp BN BM),(161,field_product.sp C6 C4)],[],[]⟩ [] 60 Tryz.f110 [.agg ⟨[.bool A3,.string A2,.bool A6,.string A5,.bool A4,.string A9,.bool A8,.string A7,.bool AB,.string AA]⟩,.agg ⟨[.bool AD,.string AC,.bool AH,.string AG,.bool AJ,.string AI,.bool B7,.string B6,.bool AF,.string AE]⟩] []=field_Mul.K BN BM C6 C4 A3 A2 A6 A5 A4 A9 A8 A7 AB AA AD AC AH AG AJ AI B7 B6 AF AE (fun r=>some (.agg ⟨[.bool r.1,.string r.2.1,.bool r.2.2.1,.string r.2.2.2.1,.bool r.2.2.2.2.1,.string r.2.2.2.2.2.1,.bool r.2.2.2.2.2.2.1,.string r.2.2.2.2.2.2.2.1,.bool r.2.2.2.2.2.2.2.2.1,.string r.2.2.2.2.2.2.2.2.2]⟩,[])):=by kernel_rfl
def field_Mul.o:Option (TY5):=field_Mul.K field_Valid field_Valid.pre field_product field_product.pre A3 A2 A6 A5 A4 A9 A8 A7 AB AA AD AC AH AG AJ AI B7 B6 AF AE some
def field_Mul.pre:Bool:=(field_Mul.o A3 A2 A6 A5 A4 A9 A8 A7 AB AA AD AC AH AG AJ AI B7 B6 AF AE).isSome
def field_Mul:TY5:=(field_Mul.o A3 A2 A6 A5 A4 A9 A8 A7 AB AA AD AC AH AG AJ AI B7 B6 AF AE).getD default
theorem field_Mul.nat (k:TY5→Option R):field_Mul.K BN BM C6 C4 A3 A2 A6 A5 A4 A9 A8 A7 AB AA AD AC AH AG AJ AI B7 B6 AF AE k=(field_Mul.K BN BM C6 C4 A3 A2 A6 A5 A4 A9 A8 A7 AB AA AD AC AH AG AJ AI B7 B6 AF AE some).bind k:=by
 simp only [field_Mul.K,bcond,Option.bind_some,Option.bind_none]
theorem field_Mul.os {j k:Nat} {x y:Q} (hx:x.Bd j) (hy:y.Bd k) (hj:j≤PRM) (hk:k≤PRM):field_Mul.o (dI x.c0).1 (dI x.c0).2 (dI x.c1).1 (dI x.c1).2 (dI x.c2).1 (dI x.c2).2 (dI x.c3).1 (dI x.c3).2 (dI x.d).1 (dI x.d).2 (dI y.c0).1 (dI y.c0).2 (dI y.c1).1 (dI y.c1).2 (dI y.c2).1 (dI y.c2).2 (dI y.c3).1 (dI y.c3).2 (dI y.d).1 (dI y.d).2=some (C5 (bif x.ok&&y.ok then qmul x y else Q.zero)):=by
 have hL:j≤LIM:=by unfold LIM; unfold PRM at hj; omega
 have hM:k≤LIM:=by unfold LIM; unfold PRM at hk; omega
 have v1:=field_Valid.ps hx hL
 have v2:=field_Valid.es hx hL
 have v3:=field_Valid.ps hy hM
 have v4:=field_Valid.es hy hM
 simp only [field_Mul.o,field_Mul.K,v1,v2,v3,v4,cond_true]
 cases ox:x.ok with
 |false=>simp only [Bool.not_false,cond_true,Bool.false_and,cond_false,C5_zero]
 |true=>
 cases oy:y.ok with
 |false=>simp only [Bool.not_true,Bool.not_false,cond_true,Bool.and_false,cond_false,C5_zero]
 |true=>
 have p1:=field_product.ps hx hy hj hk (dd_ne ox oy)
 have p2:=field_product.es hx hy hj hk (dd_ne ox oy)
 simp only [Bool.not_true,cond_false,p1,p2,cond_true,Bool.and_self]
 rfl
theorem field_Mul.ps {j k:Nat} {x y:Q} (hx:x.Bd j) (hy:y.Bd k) (hj:j≤PRM) (hk:k≤PRM):field_Mul.pre (dI x.c0).1 (dI x.c0).2 (dI x.c1).1 (dI x.c1).2 (dI x.c2).1 (dI x.c2).2 (dI x.c3).1 (dI x.c3).2 (dI x.d).1 (dI x.d).2 (dI y.c0).1 (dI y.c0).2 (dI y.c1).1 (dI y.c1).2 (dI y.c2).1 (dI y.c2).2 (dI y.c3).1 (dI y.c3).2 (dI y.d).1 (dI y.d).2=true:=isSome_of (field_Mul.os hx hy hj hk)
theorem field_Mul.es {j k:Nat} {x y:Q} (hx:x.Bd j) (hy:y.Bd k) (hj:j≤PRM) (hk:k≤PRM):field_Mul (dI x.c0).1 (dI x.c0).2 (dI x.c1).1 (dI x.c1).2 (dI x.c2).1 (dI x.c2).2 (dI x.c3).1 (dI x.c3).2 (dI x.d).1 (dI x.d).2 (dI y.c0).1 (dI y.c0).2 (dI y.c1).1 (dI y.c1).2 (dI y.c2).1 (dI y.c2).2 (dI y.c3).1 (dI y.c3).2 (dI y.d).1 (dI y.d).2=C5 (bif x.ok&&y.ok then qmul x y else Q.zero):=getD_of (field_Mul.os hx hy hj hk)
end
theorem field_Mul.ok:SOK Tryz.prog 110 (field_Mul.sp field_Mul field_Mul.pre):=by
 refine sok_of (E:=⟨[(109,field_Valid.sp field_Valid field_Valid.pre),(161,field_product.sp field_product field_product.pre)],[],[]⟩) (L:=[]) ⟨(specs_cons field_Valid.ok (specs_cons field_product.ok specs_nil)),inl_nil,mixed_ok,lps_nil⟩ 60 Tryz.func110 (by decide) rfl no_loops fun vs bl v bl' h=> ?_
 unfold field_Mul.sp at h
 split at h
 ·rename_i A3 A2 A6 A5 A4 A9 A8 A7 AB AA AD AC AH AG AJ AI B7 B6 AF AE
  simp only [Option.some.injEq,Prod.mk.injEq] at h
  obtain ⟨hp,rfl,rfl⟩:=h
  have hr:=field_Mul.run field_Valid field_Valid.pre field_product field_product.pre A3 A2 A6 A5 A4 A9 A8 A7 AB AA AD AC AH AG AJ AI B7 B6 AF AE
  rw [field_Mul.nat] at hr
  obtain ⟨r,h2⟩:=Option.isSome_iff_exists.1 (hp:(field_Mul.o A3 A2 A6 A5 A4 A9 A8 A7 AB AA AD AC AH AG AJ AI B7 B6 AF AE).isSome=true)
  have h3:field_Mul A3 A2 A6 A5 A4 A9 A8 A7 AB AA AD AC AH AG AJ AI B7 B6 AF AE=r:=by unfold field_Mul; rw [h2]; rfl
  have h4:field_Mul.K field_Valid field_Valid.pre field_product field_product.pre A3 A2 A6 A5 A4 A9 A8 A7 AB AA AD AC AH AG AJ AI B7 B6 AF AE some=some r:=h2
  rw [h4,Option.bind_some] at hr
  rw [h3]
  exact ⟨hr,by simp [okV,Nat.blt],clo_spec 8 _ (by kernel_rfl),told_blk (by kernel_rfl)⟩
 ·cases h
section
variable {R:Type} (BN:TF5 (Bool)) (BM:TF5 Bool) (BL:Int→(TY5)) (BK:Int→Bool) (C6:TF10 (TY5)) (C4:TF10 Bool) (CV:TF5 (TY5)) (CT:TF5 Bool) (BW:Bool→ByteArray→(Bool×ByteArray)) (A3:Bool) (A2:ByteArray) (A6:Bool) (A5:ByteArray) (A4:Bool) (A9:ByteArray) (A8:Bool) (A7:ByteArray) (AB:Bool) (AA:ByteArray) (AD:Bool) (AC:ByteArray) (AH:Bool) (AG:ByteArray) (AJ:Bool) (AI:ByteArray) (B7:Bool) (B6:ByteArray) (AF:Bool) (AE:ByteArray)
def field_Div.K (k:Bool×ByteArray×Bool×ByteArray×Bool×ByteArray×Bool×ByteArray×Bool×ByteArray×Int→Option R):Option R:=
 let t0:=BM A3 A2 A6 A5 A4 A9 A8 A7 AB AA
 bif t0 then
 let t1:=BN A3 A2 A6 A5 A4 A9 A8 A7 AB AA
 bif !t1 then k (false,{data:= #[]},false,{data:= #[]},false,{data:= #[]},false,{data:= #[]},false,{data:= #[]},1) else
 let t2:=BM AD AC AH AG AJ AI B7 B6 AF AE
 bif t2 then
 let t3:=BN AD AC AH AG AJ AI B7 B6 AF AE
 bif !t3 then k (false,{data:= #[]},false,{data:= #[]},false,{data:= #[]},false,{data:= #[]},false,{data:= #[]},1) else
 let t4:=BK 0
 bif t4 then
 let t5:=BL 0
 bif AD==t5.1&&AC.toList==t5.2.1.toList&&(AH==t5.2.2.1&&AG.toList==t5.2.2.2.1.toList&&(AJ==t5.2.2.2.2.1&&AI.toList==t5.2.2.2.2.2.1.toList&&(B7==t5.2.2.2.2.2.2.1&&B6.toList==t5.2.2.2.2.2.2.2.1.toList)))&&(AF==t5.2.2.2.2.2.2.2.2.1&&AE.toList==t5.2.2.2.2.2.2.2.2.2.toList) then k (false,{data:= #[]},false,{data:= #[]},false,{data:= #[]},false,{data:= #[]},false,{data:= #[]},10) else
 let t6:=BW AJ AI
 let t7:=BW B7 B6
 let t8:=C4 AD AC AH AG AJ AI B7 B6 AF AE AD AC AH AG t6.1 t6.2 t7.1 t7.2 AF AE
 bif t8 then
 let t9:=C6 AD AC AH AG AJ AI B7 B6 AF AE AD AC AH AG t6.1 t6.2 t7.1 t7.2 AF AE
 let t10:=BW t9.2.2.1 t9.2.2.2.1
 let t11:=BW t9.2.2.2.2.2.2.1 t9.2.2.2.2.2.2.2.1
 let t12:=C4 t9.1 t9.2.1 t9.2.2.1 t9.2.2.2.1 t9.2.2.2.2.1 t9.2.2.2.2.2.1 t9.2.2.2.2.2.2.1 t9.2.2.2.2.2.2.2.1 t9.2.2.2.2.2.2.2.2.1 t9.2.2.2.2.2.2.2.2.2 t9.1 t9.2.1 t10.1 t10.2 t9.2.2.2.2.1 t9.2.2.2.2.2.1 t11.1 t11.2 t9.2.2.2.2.2.2.2.2.1 t9.2.2.2.2.2.2.2.2.2
 bif t12 then
 let t13:=C6 t9.1 t9.2.1 t9.2.2.1 t9.2.2.2.1 t9.2.2.2.2.1 t9.2.2.2.2.2.1 t9.2.2.2.2.2.2.1 t9.2.2.2.2.2.2.2.1 t9.2.2.2.2.2.2.2.2.1 t9.2.2.2.2.2.2.2.2.2 t9.1 t9.2.1 t10.1 t10.2 t9.2.2.2.2.1 t9.2.2.2.2.2.1 t11.1 t11.2 t9.2.2.2.2.2.2.2.2.1 t9.2.2.2.2.2.2.2.2.2
 let t14:=CT t13.2.2.2.2.2.2.2.2.1 t13.2.2.2.2.2.2.2.2.2 false {data:= #[]} false {data:= #[]} false {data:= #[]} t13.1 t13.2.1
 bif t14 then
 let t15:=C4 A3 A2 A6 A5 A4 A9 A8 A7 AB AA AD AC AH AG t6.1 t6.2 t7.1 t7.2 AF AE
 bif t15 then
 let t16:=CV t13.2.2.2.2.2.2.2.2.1 t13.2.2.2.2.2.2.2.2.2 false {data:= #[]} false {data:= #[]} false {data:= #[]} t13.1 t13.2.1
 let t17:=C4 t9.1 t9.2.1 t10.1 t10.2 t9.2.2.2.2.1 t9.2.2.2.2.2.1 t11.1 t11.2 t9.2.2.2.2.2.2.2.2.1 t9.2.2.2.2.2.2.2.2.2 t16.1 t16.2.1 t16.2.2.1 t16.2.2.2.1 t16.2.2.2.2.1 t16.2.2.2.2.2.1 t16.2.2.2.2.2.2.1 t16.2.2.2.2.2.2.2.1 t16.2.2.2.2.2.2.2.2.1 t16.2.2.2.2.2.2.2.2.2
 bif t17 then
 let t18:=C6 A3 A2 A6 A5 A4 A9 A8 A7 AB AA AD AC AH AG t6.1 t6.2 t7.1 t7.2 AF AE
 let t19:=C6 t9.1 t9.2.1 t10.1 t10.2 t9.2.2.2.2.1 t9.2.2.2.2.2.1 t11.1 t11.2 t9.2.2.2.2.2.2.2.2.1 t9.2.2.2.2.2.2.2.2.2 t16.1 t16.2.1 t16.2.2.1 t16.2.2.2.1 t16.2.2.2.2.1 t16.2.2.2.2.2.1 t16.2.2.2.2.2.2.1 t16.2.2.2.2.2.2.2.1 t16.2.2.2.2.2.2.2.2.1 t16.2.2.2.2.2.2.2.2.2
 let t20:=C4 t18.1 t18.2.1 t18.2.2.1 t18.2.2.2.1 t18.2.2.2.2.1 t18.2.2.2.2.2.1 t18.2.2.2.2.2.2.1 t18.2.2.2.2.2.2.2.1 t18.2.2.2.2.2.2.2.2.1 t18.2.2.2.2.2.2.2.2.2 t19.1 t19.2.1 t19.2.2.1 t19.2.2.2.1 t19.2.2.2.2.1 t19.2.2.2.2.2.1 t19.2.2.2.2.2.2.1 t19.2.2.2.2.2.2.2.1 t19.2.2.2.2.2.2.2.2.1 t19.2.2.2.2.2.2.2.2.2
 bif t20 then
 let t21:=C6 t18.1 t18.2.1 t18.2.2.1 t18.2.2.2.1 t18.2.2.2.2.1 t18.2.2.2.2.2.1 t18.2.2.2.2.2.2.1 t18.2.2.2.2.2.2.2.1 t18.2.2.2.2.2.2.2.2.1 t18.2.2.2.2.2.2.2.2.2 t19.1 t19.2.1 t19.2.2.1 t19.2.2.2.1 t19.2.2.2.2.1 t19.2.2.2.2.2.1 t19.2.2.2.2.2.2.1 t19.2.2.2.2.2.2.2.1 t19.2.2.2.2.2.2.2.2.1 t19.2.2.2.2.2.2.2.2.2
 k (t21.1,t21.2.1,t21.2.2.1,t21.2.2.2.1,t21.2.2.2.2.1,t21.2.2.2.2.2.1,t21.2.2.2.2.2.2.1,t21.2.2.2.2.2.2.2.1,t21.2.2.2.2.2.2.2.2.1,t21.2.2.2.2.2.2.2.2.2,0) else none else none else none else none else none else none else none else none else none
theorem field_Div.run:xfn Tryz.prog ⟨[(109,field_Valid.sp BN BM),(114,field_Of.sp BL BK),(161,field_product.sp C6 C4),(164,field_lowest.sp CV CT),(193,bigint_Neg.sp BW)],[(165,Tryz.f165)],[]⟩ [] 60 Tryz.f113 [.agg ⟨[.bool A3,.string A2,.bool A6,.string A5,.bool A4,.string A9,.bool A8,.string A7,.bool AB,.string AA]⟩,.agg ⟨[.bool AD,.string AC,.bool AH,.string AG,.bool AJ,.string AI,.bool B7,.string B6,.bool AF,.string AE]⟩] []=field_Div.K BN BM BL BK C6 C4 CV CT BW A3 A2 A6 A5 A4 A9 A8 A7 AB AA AD AC AH AG AJ AI B7 B6 AF AE (fun r=>some (.tuple ⟨[.agg ⟨[.bool r.1,.string r.2.1,.bool r.2.2.1,.string r.2.2.2.1,.bool r.2.2.2.2.1,.string r.2.2.2.2.2.1,.bool r.2.2.2.2.2.2.1,.string r.2.2.2.2.2.2.2.1,.bool r.2.2.2.2.2.2.2.2.1,.string r.2.2.2.2.2.2.2.2.2.1]⟩,.int .i64 r.2.2.2.2.2.2.2.2.2.2]⟩,[])):=by kernel_rfl
def field_Div.o:Option (Bool×ByteArray×Bool×ByteArray×Bool×ByteArray×Bool×ByteArray×Bool×ByteArray×Int):=field_Div.K field_Valid field_Valid.pre field_Of field_Of.pre field_product field_product.pre field_lowest field_lowest.pre bigint_Neg A3 A2 A6 A5 A4 A9 A8 A7 AB AA AD AC AH AG AJ AI B7 B6 AF AE some
def field_Div.pre:Bool:=(field_Div.o A3 A2 A6 A5 A4 A9 A8 A7 AB AA AD AC AH AG AJ AI B7 B6 AF AE).isSome
def field_Div:Bool×ByteArray×Bool×ByteArray×Bool×ByteArray×Bool×ByteArray×Bool×ByteArray×Int:=(field_Div.o A3 A2 A6 A5 A4 A9 A8 A7 AB AA AD AC AH AG AJ AI B7 B6 AF AE).getD default
theorem field_Div.nat (k:Bool×ByteArray×Bool×ByteArray×Bool×ByteArray×Bool×ByteArray×Bool×ByteArray×Int→Option R):field_Div.K BN BM BL BK C6 C4 CV CT BW A3 A2 A6 A5 A4 A9 A8 A7 AB AA AD AC AH AG AJ AI B7 B6 AF AE k=(field_Div.K BN BM BL BK C6 C4 CV CT BW A3 A2 A6 A5 A4 A9 A8 A7 AB AA AD AC AH AG AJ AI B7 B6 AF AE some).bind k:=by
 simp only [field_Div.K,bcond,Option.bind_some,Option.bind_none]
end
def Q.nul (y:Q):Bool:=y.c0==0&&y.c1==0&&y.c2==0&&y.c3==0
def qDiv (x y:Q):Q×Int:=bif x.ok&&y.ok then (bif y.nul then (Q.zero,10) else (qdiv x y,0)) else (Q.zero,1)
def C51 (r:Q×Int):Bool×ByteArray×Bool×ByteArray×Bool×ByteArray×Bool×ByteArray×Bool×ByteArray×Int:=((dI r.1.c0).1,(dI r.1.c0).2,(dI r.1.c1).1,(dI r.1.c1).2,(dI r.1.c2).1,(dI r.1.c2).2,(dI r.1.c3).1,(dI r.1.c3).2,(dI r.1.d).1,(dI r.1.d).2,r.2)
theorem C51_zero (e:Int):C51 (Q.zero,e)=(false,(⟨#[]⟩:ByteArray),false,⟨#[]⟩,false,⟨#[]⟩,false,⟨#[]⟩,false,⟨#[]⟩,e):=by simp only [C51,Q.zero,dI_zero]
theorem nul_d {y:Q} (h:y.ok=true) (hn:y.nul=true):y=qof 0:=by
 obtain ⟨h1,h2⟩:=Q.ok_d h
 simp only [Q.nul,Bool.and_eq_true,beq_iff_eq] at hn
 obtain ⟨⟨⟨e0,e1⟩,e2⟩,e3⟩:=hn
 obtain ⟨c0,c1,c2,c3,d⟩:=y
 simp only at e0 e1 e2 e3 h1
 subst e0 e1 e2 e3
 have:(Q.mk 0 0 0 0 d).g=(d.natAbs:Int):=by
  show gg 0 0 0 0 d=_
  unfold gg
  simp
 rw [this] at h2
 have:d=1:=by omega
 subst this; rfl
theorem cj1_c0 (y:Q):(cj1 y).c0=y.c0:=rfl
theorem cj1_c1 (y:Q):(cj1 y).c1= -y.c1:=rfl
theorem cj1_c2 (y:Q):(cj1 y).c2=y.c2:=rfl
theorem cj1_c3 (y:Q):(cj1 y).c3= -y.c3:=rfl
theorem cj2_c0 (y:Q):(cj2 y).c0=y.c0:=rfl
theorem cj2_c1 (y:Q):(cj2 y).c1=y.c1:=rfl
theorem cj2_c2 (y:Q):(cj2 y).c2= -y.c2:=rfl
theorem cj2_c3 (y:Q):(cj2 y).c3= -y.c3:=rfl
theorem cj1_d (y:Q):(cj1 y).d=y.d:=rfl
theorem cj2_d (y:Q):(cj2 y).d=y.d:=rfl
theorem field_Div.os {j k:Nat} {x y:Q} (hx:x.Bd j) (hy:y.Bd k) (hk:1≤k) (hj:j+7*k+35≤PRM):field_Div.o (dI x.c0).1 (dI x.c0).2 (dI x.c1).1 (dI x.c1).2 (dI x.c2).1 (dI x.c2).2 (dI x.c3).1 (dI x.c3).2 (dI x.d).1 (dI x.d).2 (dI y.c0).1 (dI y.c0).2 (dI y.c1).1 (dI y.c1).2 (dI y.c2).1 (dI y.c2).2 (dI y.c3).1 (dI y.c3).2 (dI y.d).1 (dI y.d).2=some (C51 (qDiv x y)):=by
 have hL:j≤LIM:=by unfold LIM; unfold PRM at hj; omega
 have hM:k≤LIM:=by unfold LIM; unfold PRM at hj; omega
 have v1:=field_Valid.ps hx hL
 have v2:=field_Valid.es hx hL
 have v3:=field_Valid.ps hy hM
 have v4:=field_Valid.es hy hM
 cases ox:x.ok with
 | false=>
  rw [ox] at v2
  simp only [field_Div.o,field_Div.K,v1,v2,qDiv,ox,Bool.not_false,cond_true,Bool.false_and,cond_false,C51_zero]
 |true=>
 rw [ox] at v2
 cases oy:y.ok with
 | false=>
  rw [oy] at v4
  simp only [field_Div.o,field_Div.K,v1,v2,v3,v4,qDiv,ox,oy,Bool.not_true,Bool.not_false,cond_true,Bool.and_false,cond_false,C51_zero]
 |true=>
 rw [oy] at v4
 have o1:=field_Of.ps (n:=0) (by decide) (by decide)
 have o2:=field_Of.es (n:=0) (by decide) (by decide)
 have hnl:((y.c0==0)&&((y.c1==0)&&((y.c2==0)&&(y.c3==0)))&&(y.d==1))=y.nul:=by
  cases hn:y.nul with
  |true=>rw [nul_d oy hn]; rfl
  | false=>
   simp only [Q.nul] at hn
   revert hn
   cases y.c0==0<;>cases y.c1==0<;>cases y.c2==0<;>cases y.c3==0<;>simp
 have e0:∀(a:Int),((dI a).1==(dI 0).1&&(dI a).2.toList==(dI 0).2.toList)=(a==0):=fun a=>eq_dI a 0
 simp only [C5] at o2
 cases hn:y.nul with
 | true=>
  rw [hn] at hnl
  simp only [field_Div.o,field_Div.K,v1,v2,v3,v4,qDiv,ox,oy,o1,o2,eq_dI,hnl,hn,Bool.not_true,Bool.and_self,cond_true,cond_false,C51_zero]
 |false=>
 rw [hn] at hnl
 have hnz:¬(y.c0=0∧y.c1=0∧y.c2=0∧y.c3=0):=by
  rintro ⟨h0,h1,h2,h3⟩
  simp [Q.nul,h0,h1,h2,h3] at hn
 have oa:(cj2 y).ok=true:=by rw [cj2_ok,oy]
 have ba:=cj2_bd hy
 have ot:=qtwo_ok oy
 have bt:(qtwo y).Bd (2*k+5):=(qmul_bd hy ba oy oa).mono (by omega)
 have ob:(cj1 (qtwo y)).ok=true:=by rw [cj1_ok,ot]
 have bb:=cj1_bd bt
 have on:=qone_ok oy
 have bn:(qone y).Bd (4*k+15):=(qmul_bd bt bb ot ob).mono (by omega)
 have oi:=qinv_ok oy hnz
 have bi0:(Q.mk (qone y).d 0 0 0 (qone y).c0).Bd (4*k+15):=⟨bn.d,Bd.zero _,Bd.zero _,Bd.zero _,bn.c0⟩
 have bi:(qinv y).Bd (4*k+15):=low_bd bi0 (qone_ne oy hnz)
 have p1:=field_product.ps hy ba (by omega) (by omega) (dd_ne oy oa)
 have p1':=field_product.es hy ba (by omega) (by omega) (dd_ne oy oa)
 have p2:=field_product.ps bt bb (by omega) (by omega) (dd_ne ot ob)
 have p2':=field_product.es bt bb (by omega) (by omega) (dd_ne ot ob)
 have l1:=field_lowest.ps bi0 (by unfold LIM; unfold PRM at hj; omega) (qone_ne oy hnz)
 have l1':=field_lowest.es bi0 (by unfold LIM; unfold PRM at hj; omega) (qone_ne oy hnz)
 have p3:=field_product.ps hx ba (by omega) (by omega) (dd_ne ox oa)
 have p3':=field_product.es hx ba (by omega) (by omega) (dd_ne ox oa)
 have p4:=field_product.ps bb bi (by omega) (by omega) (dd_ne ob oi)
 have p4':=field_product.es bb bi (by omega) (by omega) (dd_ne ob oi)
 have b3:(qmul x (cj2 y)).Bd (j+k+5):=qmul_bd hx ba ox oa
 have b4:(qmul (cj1 (qtwo y)) (qinv y)).Bd (6*k+25):=(qmul_bd bb bi ob oi).mono (by omega)
 have o3:(qmul x (cj2 y)).ok=true:=qmul_ok ox oa
 have o4:(qmul (cj1 (qtwo y)) (qinv y)).ok=true:=qmul_ok ob oi
 have p5:=field_product.ps b3 b4 (by omega) (by omega) (dd_ne o3 o4)
 have p5':=field_product.es b3 b4 (by omega) (by omega) (dd_ne o3 o4)
 change _=C5 (qtwo y) at p1'
 change _=C5 (qone y) at p2'
 change _=C5 (qinv y) at l1'
 change _=C5 (qmul x (cj2 y)) at p3'
 change _=C5 (qmul (cj1 (qtwo y)) (qinv y)) at p4'
 change _=C5 (qdiv x y) at p5'
 have z1:(false:Bool)=(dI 0).1:=rfl
 have z2:(⟨#[]⟩:ByteArray)=(dI 0).2:=rfl
 simp only [C5,cj2_c0,cj2_c1,cj2_c2,cj2_c3,cj2_d] at p1' p1 p3 p3'
 simp only [C5,cj1_c0,cj1_c1,cj1_c2,cj1_c3,cj1_d] at p2 p2' p4 p4'
 simp only [C5] at l1 l1' p5 p5'
 simp only [←z1,←z2] at l1 l1'
 simp only [field_Div.o,field_Div.K,v1,v2,v3,v4,qDiv,ox,oy,o1,o2,eq_dI,hnl,hn,Bool.not_true,Bool.and_self,cond_false,cond_true,bigint_Neg_dI,p1,p1',p2,p2',l1,l1',p3,p3',p4,p4',p5,p5',C51]
theorem field_Div.ps {j k:Nat} {x y:Q} (hx:x.Bd j) (hy:y.Bd k) (hk:1≤k) (hj:j+7*k+35≤PRM):field_Div.pre (dI x.c0).1 (dI x.c0).2 (dI x.c1).1 (dI x.c1).2 (dI x.c2).1 (dI x.c2).2 (dI x.c3).1 (dI x.c3).2 (dI x.d).1 (dI x.d).2 (dI y.c0).1 (dI y.c0).2 (dI y.c1).1 (dI y.c1).2 (dI y.c2).1 (dI y.c2).2 (dI y.c3).1 (dI y.c3).2 (dI y.d).1 (dI y.d).2=true:=isSome_of (field_Div.os hx hy hk hj)
theorem field_Div.es {j k:Nat} {x y:Q} (hx:x.Bd j) (hy:y.Bd k) (hk:1≤k) (hj:j+7*k+35≤PRM):field_Div (dI x.c0).1 (dI x.c0).2 (dI x.c1).1 (dI x.c1).2 (dI x.c2).1 (dI x.c2).2 (dI x.c3).1 (dI x.c3).2 (dI x.d).1 (dI x.d).2 (dI y.c0).1 (dI y.c0).2 (dI y.c1).1 (dI y.c1).2 (dI y.c2).1 (dI y.c2).2 (dI y.c3).1 (dI y.c3).2 (dI y.d).1 (dI y.d).2=C51 (qDiv x y):=getD_of (field_Div.os hx hy hk hj)
theorem field_Div.ok:SOK Tryz.prog 113 (field_Div.sp field_Div field_Div.pre):=by
 refine sok_of (E:=⟨[(109,field_Valid.sp field_Valid field_Valid.pre),(114,field_Of.sp field_Of field_Of.pre),(161,field_product.sp field_product field_product.pre),(164,field_lowest.sp field_lowest field_lowest.pre),(193,bigint_Neg.sp bigint_Neg)],[(165,Tryz.f165)],[]⟩) (L:=[]) ⟨(specs_cons field_Valid.ok (specs_cons field_Of.ok (specs_cons field_product.ok (specs_cons field_lowest.ok (specs_cons bigint_Neg.ok specs_nil))))),(inl_cons ⟨Tryz.func165,by decide,rfl⟩ inl_nil),mixed_ok,lps_nil⟩ 60 Tryz.func113 (by decide) rfl no_loops fun vs bl v bl' h=> ?_
 unfold field_Div.sp at h
 split at h
 ·rename_i A3 A2 A6 A5 A4 A9 A8 A7 AB AA AD AC AH AG AJ AI B7 B6 AF AE
  simp only [Option.some.injEq,Prod.mk.injEq] at h
  obtain ⟨hp,rfl,rfl⟩:=h
  have hr:=field_Div.run field_Valid field_Valid.pre field_Of field_Of.pre field_product field_product.pre field_lowest field_lowest.pre bigint_Neg A3 A2 A6 A5 A4 A9 A8 A7 AB AA AD AC AH AG AJ AI B7 B6 AF AE
  rw [field_Div.nat] at hr
  obtain ⟨r,h2⟩:=Option.isSome_iff_exists.1 (hp:(field_Div.o A3 A2 A6 A5 A4 A9 A8 A7 AB AA AD AC AH AG AJ AI B7 B6 AF AE).isSome=true)
  have h3:field_Div A3 A2 A6 A5 A4 A9 A8 A7 AB AA AD AC AH AG AJ AI B7 B6 AF AE=r:=by unfold field_Div; rw [h2]; rfl
  have h4:field_Div.K field_Valid field_Valid.pre field_Of field_Of.pre field_product field_product.pre field_lowest field_lowest.pre bigint_Neg A3 A2 A6 A5 A4 A9 A8 A7 AB AA AD AC AH AG AJ AI B7 B6 AF AE some=some r:=h2
  rw [h4,Option.bind_some] at hr
  rw [h3]
  exact ⟨hr,by simp [okV,Nat.blt],clo_spec 8 _ (by kernel_rfl),told_blk (by kernel_rfl)⟩
 ·cases h
end Go.Proofs.YtpejalpgficopaaGreatDoor.G
end
section
namespace Go.Proofs.YtpejalpgficopaaGreatDoor.G
set_option maxRecDepth 100000
open Go Go.Proofs RX
structure DqF where
 fO:Int→(TY5)
 pO:Int→Bool
 fC:TF10 Int
 pC:TF10 Bool
structure Nc where
 (n0:Bool) (s0:ByteArray) (n1:Bool) (s1:ByteArray) (n2:Bool) (s2:ByteArray) (n3:Bool) (s3:ByteArray) (n4:Bool) (s4:ByteArray)
noncomputable abbrev DqF.env (F:DqF):Env:=⟨[(114,field_Of.sp F.fO F.pO),(115,field_Cmp.sp F.fC F.pC)],[],[]⟩
noncomputable abbrev dq.code:Code:=loopCode Tryz.f63 0
noncomputable abbrev dq.ex (F:DqF):=exec (R:=X×List Value×List (Option Blk)) Tryz.prog F.env [] (hs Tryz.prog F.env 9).lf (hs Tryz.prog F.env 9).cf dq.code
noncomputable abbrev dq.st (n b:Int) (x y q:Nc):St:=⟨gbuild [(2,.pointer (some ⟨0,0,none⟩)),(4,.pointer (some ⟨32,0,none⟩)),(6,.pointer (some ⟨192,0,none⟩)),(8,.int .i64 n),(9,.int .i64 b)] 0 75,[(0,.cs [.bool x.n0,.string x.s0,.bool x.n1,.string x.s1,.bool x.n2,.string x.s2,.bool x.n3,.string x.s3,.bool x.n4,.string x.s4] 26),(16,.cs [.bool y.n0,.string y.s0,.bool y.n1,.string y.s1,.bool y.n2,.string y.s2,.bool y.n3,.string y.s3,.bool y.n4,.string y.s4] 26),(32,.cs [.int .i64 0,.int .i64 0] 39),(192,.cs [.bool q.n0,.string q.s0,.bool q.n1,.string q.s1,.bool q.n2,.string q.s2,.bool q.n3,.string q.s3,.bool q.n4,.string q.s4] 26)],368⟩
abbrev dq.pk:=pick 75 [2,4,6,8,9] [0,16,32,192]
abbrev dq.lk:=RX.lk [2,4,6,8,9] [0,16,32,192]
abbrev dqs (m:Int):Int:=IntKind.i64.wrap (m*m)
def dqp (F:DqF) (m:Int) (q:Nc):Bool:=F.pC (F.fO m).1 (F.fO m).2.1 (F.fO m).2.2.1 (F.fO m).2.2.2.1 (F.fO m).2.2.2.2.1 (F.fO m).2.2.2.2.2.1 (F.fO m).2.2.2.2.2.2.1 (F.fO m).2.2.2.2.2.2.2.1 (F.fO m).2.2.2.2.2.2.2.2.1 (F.fO m).2.2.2.2.2.2.2.2.2 q.n0 q.s0 q.n1 q.s1 q.n2 q.s2 q.n3 q.s3 q.n4 q.s4
def dqc (F:DqF) (m:Int) (q:Nc):Int:=F.fC (F.fO m).1 (F.fO m).2.1 (F.fO m).2.2.1 (F.fO m).2.2.2.1 (F.fO m).2.2.2.2.1 (F.fO m).2.2.2.2.2.1 (F.fO m).2.2.2.2.2.2.1 (F.fO m).2.2.2.2.2.2.2.1 (F.fO m).2.2.2.2.2.2.2.2.1 (F.fO m).2.2.2.2.2.2.2.2.2 q.n0 q.s0 q.n1 q.s1 q.n2 q.s2 q.n3 q.s3 q.n4 q.s4
abbrev hf (b:Int):Int:=b.fdiv (2^min (Int.toNat 1) IntKind.i64.bits)
theorem dq.rnd (F:DqF) (n b:Int) (x y q:Nc):dq.ex F (dq.st n b x y q) dq.pk=
 bif decide (b>0) then bif decide (IntKind.i64.wrap (n+b)<2147483648) then bif F.pO (dqs (IntKind.i64.wrap (n+b))) then bif dqp F (dqs (IntKind.i64.wrap (n+b))) q then bif decide (dqc F (dqs (IntKind.i64.wrap (n+b))) q≤0) then dq.lk .normal (dq.st (IntKind.i64.wrap (n+b)) (hf b) x y q) else dq.lk .normal (dq.st n (hf b) x y q) else none else none else dq.lk .normal (dq.st n (hf b) x y q) else dq.lk (.exit 0) (dq.st n b x y q):=by kernel_rfl
def bq (k:Nat):Int:=((2^k:Nat):Int)/2
theorem bq_succ (k:Nat):bq (k+1)=((2^k:Nat):Int):=by
 unfold bq
 rw [Nat.pow_succ]
 omega
theorem bq_half (k:Nat):hf (bq (k+1))=bq k:=by
 unfold hf
 rw [bq_succ]
 show (((2^k:Nat):Int)).fdiv 2=bq k
 rw [Int.fdiv_eq_ediv_of_nonneg _ (by omega)]
 rfl
theorem bq_le {k:Nat} (h:k≤32):0≤bq k∧bq k≤2147483648:=by
 have:2^k≤2^32:=Nat.pow_le_pow_right (by omega) h
 unfold bq
 generalize 2^k=m at*
 omega
def dqb (T:Int→Bool):Nat→Int→Int
 |0,n=>n
 |k+1,n=>dqb T k (bif decide (n+bq (k+1)<2147483648) then bif T (n+bq (k+1)) then n+bq (k+1) else n else n)
def dqT (F:DqF) (q:Nc) (m:Int):Bool:=decide (dqc F (m*m) q≤0)
def DqOk (F:DqF) (q:Nc):Prop:=∀m:Int,0≤m→m<2147483648→F.pO (m*m)=true∧dqp F (m*m) q=true
noncomputable def dqOk (F:DqF) (q:Nc):Bool:= @decide (DqOk F q) (Classical.propDecidable _)
theorem dqOk_iff {F:DqF} {q:Nc} :dqOk F q=true↔DqOk F q:=by unfold dqOk; exact @decide_eq_true_iff _ (Classical.propDecidable _)
theorem sq_wrap {m:Int} (h:0≤m) (h':m<2147483648):IntKind.i64.wrap (m*m)=m*m:=by
 have:m*m≤2147483647*2147483647:=Int.mul_le_mul (by omega) (by omega) h (by omega)
 have h0:0≤m*m:=Int.mul_nonneg h h
 exact w64 (by omega) (by omega)
theorem dq.lp (F:DqF) {N:Nat→Prop} (hE:EnvOk Tryz.prog F.env) (x y q:Nc) (h:DqOk F q):∀(k:Nat) (n:Int),k≤32→0≤n→n<2147483648→Lq Tryz.prog N dq.code (dq.st n (bq k) x y q) (.exit 0) (dq.st (dqb (dqT F q) k n) 0 x y q)
 |0,n,hk,h0,h1=> .end (f:=9) hE lsOk_nil (dq.rnd F n 0 x y q) (fun q=>by cases q) rfl
 | k + 1,n,hk,h0,h1=>by
  have hb:=bq_le (k:=k+1) hk
  have hp:0<bq (k+1):=by rw [bq_succ]; have:=Nat.two_pow_pos k; omega
  have hw:IntKind.i64.wrap (n+bq (k+1))=n+bq (k+1):=w64 (by omega) (by omega)
  have hh:hf (bq (k+1))=bq k:=bq_half k
  have hr:=dq.rnd F n (bq (k+1)) x y q
  rw [hw,hh,decide_eq_true (show bq (k+1)>0 from hp),cond_true] at hr
  unfold dqb
  by_cases hm:n+bq (k+1)<2147483648
  ·rw [decide_eq_true hm,cond_true,dqs,sq_wrap (by omega) hm,(h _ (by omega) hm).1,(h _ (by omega) hm).2,cond_true,cond_true] at hr
   rw [decide_eq_true hm,cond_true]
   unfold dqT
   cases hd:decide (dqc F ((n+bq (k+1))*(n+bq (k+1))) q≤0) with
   | true=>
    rw [hd,cond_true] at hr
    rw [cond_true]
    exact .to (f:=9) hE lsOk_nil hr rfl (dq.lp F hE x y q h k _ (by omega) (by omega) hm)
   | false=>
    rw [hd,cond_false] at hr
    rw [cond_false]
    exact .to (f:=9) hE lsOk_nil hr rfl (dq.lp F hE x y q h k _ (by omega) h0 h1)
  ·rw [decide_eq_false hm,cond_false] at hr
   rw [decide_eq_false hm,cond_false]
   exact .to (f:=9) hE lsOk_nil hr rfl (dq.lp F hE x y q h k _ (by omega) h0 h1)
noncomputable def dq.lt (F:DqF) (x y q:Nc):LT:= .got (dqOk F q) (.exit 0) (dq.st (dqb (dqT F q) 32 0) 0 x y q)
theorem dq.enter {N:Nat→Prop} {S S':St} {x':X} {n b:Int} {x y q:Nc} (h2:RX.nth S.tmps 2= .pointer (some ⟨0,0,none⟩)) (h4:RX.nth S.tmps 4= .pointer (some ⟨32,0,none⟩)) (h6:RX.nth S.tmps 6= .pointer (some ⟨192,0,none⟩)) (h8:RX.nth S.tmps 8= .int .i64 n) (h9:RX.nth S.tmps 9= .int .i64 b)
  (g0:RX.look S.heap 0=some (.cs [.bool x.n0,.string x.s0,.bool x.n1,.string x.s1,.bool x.n2,.string x.s2,.bool x.n3,.string x.s3,.bool x.n4,.string x.s4] 26)) (g16:RX.look S.heap 16=some (.cs [.bool y.n0,.string y.s0,.bool y.n1,.string y.s1,.bool y.n2,.string y.s2,.bool y.n3,.string y.s3,.bool y.n4,.string y.s4] 26)) (g32:RX.look S.heap 32=some (.cs [.int .i64 0,.int .i64 0] 39)) (g192:RX.look S.heap 192=some (.cs [.bool q.n0,.string q.s0,.bool q.n1,.string q.s1,.bool q.n2,.string q.s2,.bool q.n3,.string q.s3,.bool q.n4,.string q.s4] 26)) (hl:S.tmps.length=75) (hnx:S.nxt=368) (hk:Lq Tryz.prog N dq.code (dq.st n b x y q) x' S'):Lq Tryz.prog N dq.code S x' S':=by
 obtain ⟨T,H,n⟩:=S
 subst hnx
 exact .enter (fun h=>wk_of hl (.cons ⟨h2,bnth h h2⟩ (.cons ⟨h4,bnth h h4⟩ (.cons ⟨h6,bnth h h6⟩ (.cons ⟨h8,bnth h h8⟩ (.cons ⟨h9,bnth h h9⟩ .nil))))) (.cons ⟨g0,bname h g0,rfl⟩ (.cons ⟨g16,bname h g16,rfl⟩ (.cons ⟨g32,bname h g32,rfl⟩ (.cons ⟨g192,bname h g192,rfl⟩ .nil))))) hk
noncomputable def dq.t (F:DqF):LSpec:=fun S=>match RX.nth S.tmps 2,RX.nth S.tmps 4,RX.nth S.tmps 6,RX.nth S.tmps 8,RX.nth S.tmps 9,RX.look S.heap 0,RX.look S.heap 16,RX.look S.heap 32,RX.look S.heap 192 with
 | .pointer (some ⟨0,0,none⟩),.pointer (some ⟨32,0,none⟩),.pointer (some ⟨192,0,none⟩),.int .i64 n,.int .i64 b,some (.cs [.bool xn0,.string xs0,.bool xn1,.string xs1,.bool xn2,.string xs2,.bool xn3,.string xs3,.bool xn4,.string xs4] 26),some (.cs [.bool yn0,.string ys0,.bool yn1,.string ys1,.bool yn2,.string ys2,.bool yn3,.string ys3,.bool yn4,.string ys4] 26),some (.cs [.int .i64 0,.int .i64 0] 39),some (.cs [.bool qn0,.string qs0,.bool qn1,.string qs1,.bool qn2,.string qs2,.bool qn3,.string qs3,.bool qn4,.string qs4] 26)=>bif Nat.beq S.tmps.length 75&&Nat.beq S.nxt 368&&ieq n 0&&ieq b 2147483648 then some (dq.lt F ⟨xn0,xs0,xn1,xs1,xn2,xs2,xn3,xs3,xn4,xs4⟩ ⟨yn0,ys0,yn1,ys1,yn2,ys2,yn3,ys3,yn4,ys4⟩ ⟨qn0,qs0,qn1,qs1,qn2,qs2,qn3,qs3,qn4,qs4⟩) else none
 |_,_,_,_,_,_,_,_,_=>none
theorem dq.lok (F:DqF) {N:Nat→Prop} (hE:EnvOk Tryz.prog F.env):LOKn Tryz.prog N dq.code (dq.t F):=by
 refine lok_q fun S lt x' S' ht hat=> ?_
 unfold dq.t at ht
 split at ht
 ·rename_i n b xn0 xs0 xn1 xs1 xn2 xs2 xn3 xs3 xn4 xs4 yn0 ys0 yn1 ys1 yn2 ys2 yn3 ys3 yn4 ys4 qn0 qs0 qn1 qs1 qn2 qs2 qn3 qs3 qn4 qs4 h2 h4 h6 h8 h9 g0 g16 g32 g192
  cases hb:Nat.beq S.tmps.length 75&&Nat.beq S.nxt 368&&ieq n 0&&ieq b 2147483648 with
  |false=>rw [hb] at ht; cases ht
  | true=>
   rw [hb] at ht
   injection ht with ht
   subst ht
   rw [Bool.and_eq_true,Bool.and_eq_true,Bool.and_eq_true] at hb
   obtain ⟨⟨⟨hb,hnx⟩,e1⟩,e2⟩:=hb
   have e1:=ieq_eq.1 e1
   have e2:=ieq_eq.1 e2
   subst e1 e2
   have hb:=Nat.eq_of_beq_eq_true hb
   have hnx:=Nat.eq_of_beq_eq_true hnx
   unfold dq.lt LT.at at hat
   cases ho:dqOk F ⟨qn0,qs0,qn1,qs1,qn2,qs2,qn3,qs3,qn4,qs4⟩ with
   |false=>rw [ho] at hat; cases hat
   | true=>
    rw [ho] at hat
    injection hat with hat
    injection hat with hx hs
    subst hx hs
    exact dq.enter (x:=⟨xn0,xs0,xn1,xs1,xn2,xs2,xn3,xs3,xn4,xs4⟩) (y:=⟨yn0,ys0,yn1,ys1,yn2,ys2,yn3,ys3,yn4,ys4⟩) (q:=⟨qn0,qs0,qn1,qs1,qn2,qs2,qn3,qs3,qn4,qs4⟩) h2 h4 h6 h8 h9 g0 g16 g32 g192 hb hnx (dq.lp F hE _ _ _ (dqOk_iff.1 ho) 32 0 (by omega) (by omega) (by omega))
 ·cases ht
end Go.Proofs.YtpejalpgficopaaGreatDoor.G
end
