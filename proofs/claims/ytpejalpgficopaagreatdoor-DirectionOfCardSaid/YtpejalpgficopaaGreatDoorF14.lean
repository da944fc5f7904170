/- A part of what the law's proof leans on. PACKED BY pack.py of this repo. -/
import Derived.Test.YtpejalpgficopaaGreatDoorF13
set_option linter.unusedVariables false
set_option linter.unusedSimpArgs false
set_option linter.unusedSectionVars false
set_option linter.defProp false
set_option maxRecDepth 100000
open Go.IntKind (i64 u64 u32)
section
namespace Go.Proofs.YtpejalpgficopaaGreatDoor.G
open Go Go.Proofs Go.RowKit RX
def Dm.K {R:Type} (a0:Int) (a1:Int) (a2:Int) (k:(Int)→R):R:=
 bif a0==a1 then k (a0) else bif a1==0 then k (a0) else bif a0==0 then k (a1) else k (i64.wrap (a0*a2))
theorem Dm.run (a0:Int) (a1:Int) (a2:Int):xfn Tryz.prog ⟨[],[],[]⟩ [] 60 Tryz.f168 [.int .i64 a0,.int .i64 a1,.int .i64 a2] []=Dm.K a0 a1 a2 (fun r=>some (.int .i64 r,[])):=by kernel_rfl
def Dm (a0:Int) (a1:Int) (a2:Int):Int:=Dm.K a0 a1 a2 id
theorem Dm.nat {R:Type} (a0:Int) (a1:Int) (a2:Int) (k:(Int)→R):Dm.K a0 a1 a2 k=k (Dm.K a0 a1 a2 id):=by
 simp only [Dm.K,acond k,id_eq]
theorem Dm.es {a b s:Int} (ha:a= -1∨a=0∨a=1) (hs:s= -1∨s=0∨s=1):Dm a b s=mix a b s:=by
 simp only [Dm,Dm.K,id_eq,mix]
 by_cases h1:a=b
 ·rw [if_pos (.inl h1),h1]; simp
 ·rw [E9 h1]
  by_cases h2:b=0
  ·rw [if_pos (.inr h2),h2]; rfl
  ·rw [E9 h2,if_neg (fun h=>h.elim h1 h2)]
   by_cases h3:a=0
   ·rw [if_pos h3,h3]; rfl
   ·rw [E9 h3,if_neg h3]
    rcases ha with rfl|rfl|rfl<;>rcases hs with rfl|rfl|rfl<;>rfl
theorem Dm.ok:SOK Tryz.prog 168 (Dm.sp Dm):=by
 refine Dl (E:=⟨[],[],[]⟩) (L:=[]) ⟨Ac,Aq,Aj,Ap⟩ 60 Tryz.func168 (by decide) rfl Bf fun vs bl v bl' h=> ?_
 unfold Dm.sp at h
 split at h
 ·rename_i a0 a1 a2
  simp only [zS,zP,true_and] at h
  obtain ⟨rfl,rfl⟩:=h
  refine ⟨?_,by simp [okV,Nat.blt],clo_spec 8 _ (by kernel_rfl),Bg (by kernel_rfl)⟩
  refine (Dm.run a0 a1 a2).trans ?_
  refine (Dm.nat a0 a1 a2 _).trans ?_
  kernel_rfl
 ·cases h
section
variable {R:Type} (C0:Int→(Bool×ByteArray)) (BZ:Int→Bool) (BU:Bool→ByteArray→Bool→ByteArray→(Bool×ByteArray)) (BT:Bool→ByteArray→Bool→ByteArray→Bool) (a0:Int) (AC:Bool) (AB:ByteArray) (AV:Bool) (AU:ByteArray)
def Bh.K (k:Bool×ByteArray→Option R):Option R:=
 let t0:=BZ a0
 bif t0 then
 let t1:=BT AC AB AV AU
 bif t1 then
 let t2:=C0 a0
 let t3:=BU AC AB AV AU
 let t4:=BT t2.1 t2.2 t3.1 t3.2
 bif t4 then
 let t5:=BU t2.1 t2.2 t3.1 t3.2
 k (t5.1,t5.2) else none else none else none
theorem Bh.run:xfn Tryz.prog ⟨[(160,Ct.sp C0 BZ),(163,By.sp BU BT)],[],[]⟩ [] 60 Tryz.f170 [.int .i64 a0,.agg ⟨[.bool AC,.string AB]⟩,.agg ⟨[.bool AV,.string AU]⟩] []=Bh.K C0 BZ BU BT a0 AC AB AV AU (fun r=>some (.agg ⟨[.bool r.1,.string r.2]⟩,[])):=by kernel_rfl
def Bh.o:Option (Bool×ByteArray):=Bh.K Ct Ct.pre By By.pre a0 AC AB AV AU some
def Bh.pre:Bool:=(Bh.o a0 AC AB AV AU).isSome
def Bh:Bool×ByteArray:=(Bh.o a0 AC AB AV AU).getD default
theorem Bh.nat (k:Bool×ByteArray→Option R):Bh.K C0 BZ BU BT a0 AC AB AV AU k=(Bh.K C0 BZ BU BT a0 AC AB AV AU some).bind k:=by
 simp only [Bh.K,bcond,Option.bind_some,Option.bind_none]
theorem Bh.os {j k:Nat} {q a b:Int} (hq:Few6 q) (ha:Bd j a) (hb:Bd k b) (hj:j≤PRM) (hk:k≤PRM):Bh.o q (dI a).1 (dI a).2 (dI b).1 (dI b).2=some (dI (q*(a*b))):=by
 have h1:Ct.pre q=true:=by rcases hq with rfl|rfl|rfl|rfl<;>rfl
 unfold PRM at hj hk
 have h2:=I6 ha hb (by unfold LIM; omega) (by unfold LIM; omega)
 have h3:=I6 (Fu hq) (ha.mul hb) (by unfold LIM; omega) (by unfold LIM; omega)
 simp only [Bh.o,Bh.K,h1,h2,NH,Ey,h3,cond_true]
theorem Bh.ps {j k:Nat} {q a b:Int} (hq:Few6 q) (ha:Bd j a) (hb:Bd k b) (hj:j≤PRM) (hk:k≤PRM):Bh.pre q (dI a).1 (dI a).2 (dI b).1 (dI b).2=true:=Ew (Bh.os hq ha hb hj hk)
theorem Bh.es {j k:Nat} {q a b:Int} (hq:Few6 q) (ha:Bd j a) (hb:Bd k b) (hj:j≤PRM) (hk:k≤PRM):Bh q (dI a).1 (dI a).2 (dI b).1 (dI b).2=dI (q*(a*b)):=FP (Bh.os hq ha hb hj hk)
end
theorem Bh.ok:SOK Tryz.prog 170 (Bh.sp Bh Bh.pre):=by
 refine Dl (E:=⟨[(160,Ct.sp Ct Ct.pre),(163,By.sp By By.pre)],[],[]⟩) (L:=[]) ⟨(Aa Ct.ok (Aa By.ok Ac)),Aq,Aj,Ap⟩ 60 Tryz.func170 (by decide) rfl Bf fun vs bl v bl' h=> ?_
 unfold Bh.sp at h
 split at h
 ·rename_i a0 AC AB AV AU
  simp only [zS,zP] at h
  obtain ⟨hp,rfl,rfl⟩:=h
  have hr:=Bh.run Ct Ct.pre By By.pre a0 AC AB AV AU
  rw [Bh.nat] at hr
  obtain ⟨r,h2⟩:=Option.isSome_iff_exists.1 (hp:(Bh.o a0 AC AB AV AU).isSome=true)
  have h3:Bh a0 AC AB AV AU=r:=by unfold Bh; rw [h2]; rfl
  have h4:Bh.K Ct Ct.pre By By.pre a0 AC AB AV AU some=some r:=h2
  rw [h4,Option.bind_some] at hr
  rw [h3]
  exact ⟨hr,by simp [okV,Nat.blt],clo_spec 8 _ (by kernel_rfl),Bg (by kernel_rfl)⟩
 ·cases h
section
variable {R:Type} (C6:Bool→ByteArray→(Int)) (BU:Bool→ByteArray→Bool→ByteArray→(Bool×ByteArray)) (BT:Bool→ByteArray→Bool→ByteArray→Bool) (CF:Int→Int→Int→(Int)) (CA:Int→Bool→ByteArray→Bool→ByteArray→(Bool×ByteArray)) (C9:Int→Bool→ByteArray→Bool→ByteArray→Bool) (DM:Bool→ByteArray→Bool→ByteArray→(Int)) (DL:Bool→ByteArray→Bool→ByteArray→Bool) (A7:Bool) (AA:ByteArray) (AC:Bool) (AB:ByteArray)
def Ch.K (k:(Int)→Option R):Option R:=
 let t0:=BT A7 AA A7 AA
 bif t0 then
 let t1:=C9 2 AC AB AC AB
 bif t1 then
 let t2:=BU A7 AA A7 AA
 let t3:=CA 2 AC AB AC AB
 let t4:=DL t2.1 t2.2 t3.1 t3.2
 bif t4 then
 let t5:=C6 A7 AA
 let t6:=C6 AC AB
 let t7:=DM t2.1 t2.2 t3.1 t3.2
 let t8:=CF t5 t6 t7
 k (t8) else none else none else none
theorem Ch.run:xfn Tryz.prog ⟨[(158,E4.sp C6),(163,By.sp BU BT),(168,Dm.sp CF),(170,Bh.sp CA C9),(196,EP.sp DM DL)],[],[]⟩ [] 60 Tryz.f167 [.agg ⟨[.bool A7,.string AA]⟩,.agg ⟨[.bool AC,.string AB]⟩] []=Ch.K C6 BU BT CF CA C9 DM DL A7 AA AC AB (fun r=>some (.int .i64 r,[])):=by kernel_rfl
def Ch.o:Option (Int):=Ch.K E4 By By.pre Dm Bh Bh.pre EP EP.pre A7 AA AC AB some
def Ch.pre:Bool:=(Ch.o A7 AA AC AB).isSome
def Ch:Int:=(Ch.o A7 AA AC AB).getD default
theorem Ch.nat (k:(Int)→Option R):Ch.K C6 BU BT CF CA C9 DM DL A7 AA AC AB k=(Ch.K C6 BU BT CF CA C9 DM DL A7 AA AC AB some).bind k:=by
 simp only [Ch.K,bcond,Option.bind_some,Option.bind_none]
theorem Ch.os {j k:Nat} {a b:Int} (ha:Bd j a) (hb:Bd k b) (hj:j≤PRM) (hk:k≤PRM):Ch.o (dI a).1 (dI a).2 (dI b).1 (dI b).2=some (sg2 a b):=by
 have f2:Few6 2:= .inr (.inl rfl)
 have p1:=Bh.ps f2 hb hb hk hk
 have p2:=Bh.es f2 hb hb hk hk
 unfold PRM at hj hk
 have h2:=I6 ha ha (by unfold LIM; omega) (by unfold LIM; omega)
 have h3:=cmp_pre (ha.mul ha) ((Fu f2).mul (hb.mul hb)) (by unfold LIM; omega) (by unfold LIM; omega)
 simp only [Ch.o,Ch.K,h2,p1,p2,Ey,h3,Fy,Lf,cond_true,Dm.es (Gv _) (Gv _)]
 rfl
theorem Ch.ps {j k:Nat} {a b:Int} (ha:Bd j a) (hb:Bd k b) (hj:j≤PRM) (hk:k≤PRM):Ch.pre (dI a).1 (dI a).2 (dI b).1 (dI b).2=true:=Ew (Ch.os ha hb hj hk)
theorem Ch.es {j k:Nat} {a b:Int} (ha:Bd j a) (hb:Bd k b) (hj:j≤PRM) (hk:k≤PRM):Ch (dI a).1 (dI a).2 (dI b).1 (dI b).2=sg2 a b:=FP (Ch.os ha hb hj hk)
end
theorem Ch.ok:SOK Tryz.prog 167 (Ch.sp Ch Ch.pre):=by
 refine Dl (E:=⟨[(158,E4.sp E4),(163,By.sp By By.pre),(168,Dm.sp Dm),(170,Bh.sp Bh Bh.pre),(196,EP.sp EP EP.pre)],[],[]⟩) (L:=[]) ⟨(Aa E4.ok (Aa By.ok (Aa Dm.ok (Aa Bh.ok (Aa EP.ok Ac))))),Aq,Aj,Ap⟩ 60 Tryz.func167 (by decide) rfl Bf fun vs bl v bl' h=> ?_
 unfold Ch.sp at h
 split at h
 ·rename_i A7 AA AC AB
  simp only [zS,zP] at h
  obtain ⟨hp,rfl,rfl⟩:=h
  have hr:=Ch.run E4 By By.pre Dm Bh Bh.pre EP EP.pre A7 AA AC AB
  rw [Ch.nat] at hr
  obtain ⟨r,h2⟩:=Option.isSome_iff_exists.1 (hp:(Ch.o A7 AA AC AB).isSome=true)
  have h3:Ch A7 AA AC AB=r:=by unfold Ch; rw [h2]; rfl
  have h4:Ch.K E4 By By.pre Dm Bh Bh.pre EP EP.pre A7 AA AC AB some=some r:=h2
  rw [h4,Option.bind_some] at hr
  rw [h3]
  exact ⟨hr,by simp [okV,Nat.blt],clo_spec 8 _ (by kernel_rfl),Bg (by kernel_rfl)⟩
 ·cases h
section
variable {R:Type} (BG:TF5 (Bool)) (BF:TF5 Bool) (CH:Bool→ByteArray→Bool→ByteArray→(Bool×ByteArray)) (CG:Bool→ByteArray→Bool→ByteArray→Bool) (D5:Bool→ByteArray→Bool→ByteArray→(Int)) (D4:Bool→ByteArray→Bool→ByteArray→Bool) (CF:Int→Int→Int→(Int)) (DI:Bool→ByteArray→Bool→ByteArray→(Bool×ByteArray)) (DG:Bool→ByteArray→Bool→ByteArray→Bool) (CA:Int→Bool→ByteArray→Bool→ByteArray→(Bool×ByteArray)) (C9:Int→Bool→ByteArray→Bool→ByteArray→Bool) (A7:Bool) (AA:ByteArray) (AG:Bool) (AF:ByteArray) (AE:Bool) (AD:ByteArray) (AI:Bool) (AH:ByteArray) (AK:Bool) (AJ:ByteArray)
def Bz.K (k:(Int)→Option R):Option R:=
 let t0:=BF A7 AA AG AF AE AD AI AH AK AJ
 bif t0 then
 let t1:=BG A7 AA AG AF AE AD AI AH AK AJ
 bif !t1 then k (0) else
 let t2:=D4 A7 AA AG AF
 bif t2 then
 let t3:=D4 AE AD AI AH
 bif t3 then
 let t4:=D5 A7 AA AG AF
 let t5:=D5 AE AD AI AH
 bif t4==t5 then
 let t6:=CF t4 t5 0
 k (t6) else bif t5==0 then
 let t7:=CF t4 t5 0
 k (t7) else bif t4==0 then
 let t8:=CF t4 t5 0
 k (t8) else
 let t9:=C9 1 A7 AA A7 AA
 bif t9 then
 let t10:=C9 2 AG AF AG AF
 bif t10 then
 let t11:=CA 1 A7 AA A7 AA
 let t12:=CA 2 AG AF AG AF
 let t13:=CG t11.1 t11.2 t12.1 t12.2
 bif t13 then
 let t14:=C9 3 AE AD AE AD
 bif t14 then
 let t15:=C9 6 AI AH AI AH
 bif t15 then
 let t16:=CA 3 AE AD AE AD
 let t17:=CA 6 AI AH AI AH
 let t18:=CG t16.1 t16.2 t17.1 t17.2
 bif t18 then
 let t19:=CH t11.1 t11.2 t12.1 t12.2
 let t20:=CH t16.1 t16.2 t17.1 t17.2
 let t21:=DG t19.1 t19.2 t20.1 t20.2
 bif t21 then
 let t22:=C9 2 A7 AA AG AF
 bif t22 then
 let t23:=C9 6 AE AD AI AH
 bif t23 then
 let t24:=CA 2 A7 AA AG AF
 let t25:=CA 6 AE AD AI AH
 let t26:=DG t24.1 t24.2 t25.1 t25.2
 bif t26 then
 let t27:=DI t19.1 t19.2 t20.1 t20.2
 let t28:=DI t24.1 t24.2 t25.1 t25.2
 let t29:=D4 t27.1 t27.2 t28.1 t28.2
 bif t29 then
 let t30:=D5 t27.1 t27.2 t28.1 t28.2
 let t31:=CF t4 t5 t30
 k (t31) else none else none else none else none else none else none else none else none else none else none else none else none else none else none
theorem Bz.run:xfn Tryz.prog ⟨[(109,Al.sp BG BF),(162,Dt.sp CH CG),(167,Ch.sp D5 D4),(168,Dm.sp CF),(169,EN.sp DI DG),(170,Bh.sp CA C9)],[],[]⟩ [] 60 Tryz.f116 [.agg ⟨[.bool A7,.string AA,.bool AG,.string AF,.bool AE,.string AD,.bool AI,.string AH,.bool AK,.string AJ]⟩] []=Bz.K BG BF CH CG D5 D4 CF DI DG CA C9 A7 AA AG AF AE AD AI AH AK AJ (fun r=>some (.int .i64 r,[])):=by kernel_rfl
def Bz.o:Option (Int):=Bz.K Al Al.pre Dt Dt.pre Ch Ch.pre Dm EN EN.pre Bh Bh.pre A7 AA AG AF AE AD AI AH AK AJ some
def Bz.pre:Bool:=(Bz.o A7 AA AG AF AE AD AI AH AK AJ).isSome
def Bz:Int:=(Bz.o A7 AA AG AF AE AD AI AH AK AJ).getD default
theorem Bz.nat (k:(Int)→Option R):Bz.K BG BF CH CG D5 D4 CF DI DG CA C9 A7 AA AG AF AE AD AI AH AK AJ k=(Bz.K BG BF CH CG D5 D4 CF DI DG CA C9 A7 AA AG AF AE AD AI AH AK AJ some).bind k:=by
 simp only [Bz.K,bcond,Option.bind_some,Option.bind_none]
theorem Bz.os {k:Nat} {x:Q} (h:x.Bd k) (hk:2*k+3≤PRM):
  Bz.o (dI x.c0).1 (dI x.c0).2 (dI x.c1).1 (dI x.c1).2 (dI x.c2).1 (dI x.c2).2 (dI x.c3).1 (dI x.c3).2 (dI x.d).1 (dI x.d).2=some (bif x.ok then x.sg else 0):=by
 have hk':k≤PRM:=by omega
 have f1:Few6 1:= .inl rfl
 have f2:Few6 2:= .inr (.inl rfl)
 have f3:Few6 3:= .inr (.inr (.inl rfl))
 have f6:Few6 6:= .inr (.inr (.inr rfl))
 have hL:k≤LIM:=by unfold LIM; unfold PRM at hk'; omega
 have v1:=Al.ps h hL
 have v2:=Al.es h hL
 have s1:=Ch.ps h.c0 h.c1 hk' hk'
 have s2:=Ch.es h.c0 h.c1 hk' hk'
 have s3:=Ch.ps h.c2 h.c3 hk' hk'
 have s4:=Ch.es h.c2 h.c3 hk' hk'
 have t1:=Bh.ps f1 h.c0 h.c0 hk' hk'
 have t1':=Bh.es f1 h.c0 h.c0 hk' hk'
 have t2:=Bh.ps f2 h.c1 h.c1 hk' hk'
 have t2':=Bh.es f2 h.c1 h.c1 hk' hk'
 have t3:=Bh.ps f3 h.c2 h.c2 hk' hk'
 have t3':=Bh.es f3 h.c2 h.c2 hk' hk'
 have t4:=Bh.ps f6 h.c3 h.c3 hk' hk'
 have t4':=Bh.es f6 h.c3 h.c3 hk' hk'
 have t5:=Bh.ps f2 h.c0 h.c1 hk' hk'
 have t5':=Bh.es f2 h.c0 h.c1 hk' hk'
 have t6:=Bh.ps f6 h.c2 h.c3 hk' hk'
 have t6':=Bh.es f6 h.c2 h.c3 hk' hk'
 have b1:Bd (2*k+1) (1*(x.c0*x.c0)):=((Fu f1).mul (h.c0.mul h.c0)).mono (by omega)
 have b2:Bd (2*k+1) (2*(x.c1*x.c1)):=((Fu f2).mul (h.c1.mul h.c1)).mono (by omega)
 have b3:Bd (2*k+1) (3*(x.c2*x.c2)):=((Fu f3).mul (h.c2.mul h.c2)).mono (by omega)
 have b4:Bd (2*k+1) (6*(x.c3*x.c3)):=((Fu f6).mul (h.c3.mul h.c3)).mono (by omega)
 have b5:Bd (2*k+1) (2*(x.c0*x.c1)):=((Fu f2).mul (h.c0.mul h.c1)).mono (by omega)
 have b6:Bd (2*k+1) (6*(x.c2*x.c3)):=((Fu f6).mul (h.c2.mul h.c3)).mono (by omega)
 unfold PRM at hk
 have a1:=Mq b1 b2 (by unfold LIM; omega) (by unfold LIM; omega)
 have a2:=Mq b3 b4 (by unfold LIM; omega) (by unfold LIM; omega)
 have a3:=Oe (b1.add b2) (b3.add b4) (by unfold LIM; omega) (by unfold LIM; omega)
 have a4:=Oe b5 b6 (by unfold LIM; omega) (by unfold LIM; omega)
 have d1:Bd (2*k+3) (1*(x.c0*x.c0)+2*(x.c1*x.c1)-(3*(x.c2*x.c2)+6*(x.c3*x.c3))):=(b1.add b2).add (b3.add b4).neg
 have d2:Bd (2*k+3) (2*(x.c0*x.c1)-6*(x.c2*x.c3)):=(b5.add b6.neg).mono (by omega)
 have s5:=Ch.ps d1 d2 (by unfold PRM; omega) (by unfold PRM; omega)
 have s6:=Ch.es d1 d2 (by unfold PRM; omega) (by unfold PRM; omega)
 simp only [Bz.o,Bz.K,v1,v2,s1,s2,s3,s4,t1,t2,t3,t4,t5,t6,t1',t2',t3',t4',t5',t6',a1,a2,a3,a4,Gp,Ld,s5,s6,cond_true]
 have m0:Dm (sg2 x.c0 x.c1) (sg2 x.c2 x.c3) 0=mix (sg2 x.c0 x.c1) (sg2 x.c2 x.c3) 0:=Dm.es (JR _ _) (.inr (.inl rfl))
 have m1:∀s,(s= -1∨s=0∨s=1)→Dm (sg2 x.c0 x.c1) (sg2 x.c2 x.c3) s=mix (sg2 x.c0 x.c1) (sg2 x.c2 x.c3) s:=fun s hs=>Dm.es (JR _ _) hs
 cases hv:x.ok with
 |false=>rfl
 | true=>
  simp only [zN,cond_false,cond_true,m0,m1 _ (JR _ _)]
  show _=some (sgz x.c0 x.c1 x.c2 x.c3)
  unfold sgz
  by_cases e1:sg2 x.c0 x.c1=sg2 x.c2 x.c3
  ·rw [if_pos (.inl e1),e1]; simp
  ·rw [E9 e1]
   by_cases e2:sg2 x.c2 x.c3=0
   ·rw [if_pos (.inr (.inl e2)),e2]; rfl
   ·rw [E9 e2]
    by_cases e3:sg2 x.c0 x.c1=0
    ·rw [if_pos (.inr (.inr e3)),e3]; rfl
    ·rw [E9 e3,if_neg (fun h=>h.elim e1 (fun h=>h.elim e2 e3))]; rfl
theorem Bz.ps {k:Nat} {x:Q} (h:x.Bd k) (hk:2*k+3≤PRM):Bz.pre (dI x.c0).1 (dI x.c0).2 (dI x.c1).1 (dI x.c1).2 (dI x.c2).1 (dI x.c2).2 (dI x.c3).1 (dI x.c3).2 (dI x.d).1 (dI x.d).2=true:=Ew (Bz.os h hk)
theorem Bz.es {k:Nat} {x:Q} (h:x.Bd k) (hk:2*k+3≤PRM):Bz (dI x.c0).1 (dI x.c0).2 (dI x.c1).1 (dI x.c1).2 (dI x.c2).1 (dI x.c2).2 (dI x.c3).1 (dI x.c3).2 (dI x.d).1 (dI x.d).2=bif x.ok then x.sg else 0:=FP (Bz.os h hk)
end
theorem Bz.ok:SOK Tryz.prog 116 (Bz.sp Bz Bz.pre):=by
 refine Dl (E:=⟨[(109,Al.sp Al Al.pre),(162,Dt.sp Dt Dt.pre),(167,Ch.sp Ch Ch.pre),(168,Dm.sp Dm),(169,EN.sp EN EN.pre),(170,Bh.sp Bh Bh.pre)],[],[]⟩) (L:=[]) ⟨(Aa Al.ok (Aa Dt.ok (Aa Ch.ok (Aa Dm.ok (Aa EN.ok (Aa Bh.ok Ac)))))),Aq,Aj,Ap⟩ 60 Tryz.func116 (by decide) rfl Bf fun vs bl v bl' h=> ?_
 unfold Bz.sp at h
 split at h
 ·rename_i A7 AA AG AF AE AD AI AH AK AJ
  simp only [zS,zP] at h
  obtain ⟨hp,rfl,rfl⟩:=h
  have hr:=Bz.run Al Al.pre Dt Dt.pre Ch Ch.pre Dm EN EN.pre Bh Bh.pre A7 AA AG AF AE AD AI AH AK AJ
  rw [Bz.nat] at hr
  obtain ⟨r,h2⟩:=Option.isSome_iff_exists.1 (hp:(Bz.o A7 AA AG AF AE AD AI AH AK AJ).isSome=true)
  have h3:Bz A7 AA AG AF AE AD AI AH AK AJ=r:=by unfold Bz; rw [h2]; rfl
  have h4:Bz.K Al Al.pre Dt Dt.pre Ch Ch.pre Dm EN EN.pre Bh Bh.pre A7 AA AG AF AE AD AI AH AK AJ some=some r:=h2
  rw [h4,Option.bind_some] at hr
  rw [h3]
  exact ⟨hr,by simp [okV,Nat.blt],clo_spec 8 _ (by kernel_rfl),Bg (by kernel_rfl)⟩
 ·cases h
section
variable {R:Type} (BG:TF5 (Bool)) (BF:TF5 Bool) (CH:Bool→ByteArray→Bool→ByteArray→(Bool×ByteArray)) (CG:Bool→ByteArray→Bool→ByteArray→Bool) (BU:Bool→ByteArray→Bool→ByteArray→(Bool×ByteArray)) (BT:Bool→ByteArray→Bool→ByteArray→Bool) (CP:TF5 (TY5)) (CN:TF5 Bool) (A7:Bool) (AA:ByteArray) (AG:Bool) (AF:ByteArray) (AE:Bool) (AD:ByteArray) (AI:Bool) (AH:ByteArray) (AK:Bool) (AJ:ByteArray) (AC:Bool) (AB:ByteArray) (AM:Bool) (AL:ByteArray) (AQ:Bool) (AP:ByteArray) (AS:Bool) (AR:ByteArray) (AO:Bool) (AN:ByteArray)
def DZ.K (k:TY5→Option R):Option R:=
 let t0:=BF A7 AA AG AF AE AD AI AH AK AJ
 bif t0 then
 let t1:=BG A7 AA AG AF AE AD AI AH AK AJ
 bif !t1 then k (false,{data:= #[]},false,{data:= #[]},false,{data:= #[]},false,{data:= #[]},false,{data:= #[]}) else
 let t2:=BF AC AB AM AL AQ AP AS AR AO AN
 bif t2 then
 let t3:=BG AC AB AM AL AQ AP AS AR AO AN
 bif !t3 then k (false,{data:= #[]},false,{data:= #[]},false,{data:= #[]},false,{data:= #[]},false,{data:= #[]}) else
 let t4:=BT A7 AA AO AN
 bif t4 then
 let t5:=BT AC AB AK AJ
 bif t5 then
 let t6:=BU A7 AA AO AN
 let t7:=BU AC AB AK AJ
 let t8:=CG t6.1 t6.2 t7.1 t7.2
 bif t8 then
 let t9:=BT AG AF AO AN
 bif t9 then
 let t10:=BT AM AL AK AJ
 bif t10 then
 let t11:=BU AG AF AO AN
 let t12:=BU AM AL AK AJ
 let t13:=CG t11.1 t11.2 t12.1 t12.2
 bif t13 then
 let t14:=BT AE AD AO AN
 bif t14 then
 let t15:=BT AQ AP AK AJ
 bif t15 then
 let t16:=BU AE AD AO AN
 let t17:=BU AQ AP AK AJ
 let t18:=CG t16.1 t16.2 t17.1 t17.2
 bif t18 then
 let t19:=BT AI AH AO AN
 bif t19 then
 let t20:=BT AS AR AK AJ
 bif t20 then
 let t21:=BU AI AH AO AN
 let t22:=BU AS AR AK AJ
 let t23:=CG t21.1 t21.2 t22.1 t22.2
 bif t23 then
 let t24:=BT AK AJ AO AN
 bif t24 then
 let t25:=CH t6.1 t6.2 t7.1 t7.2
 let t26:=CH t11.1 t11.2 t12.1 t12.2
 let t27:=CH t16.1 t16.2 t17.1 t17.2
 let t28:=CH t21.1 t21.2 t22.1 t22.2
 let t29:=BU AK AJ AO AN
 let t30:=CN t25.1 t25.2 t26.1 t26.2 t27.1 t27.2 t28.1 t28.2 t29.1 t29.2
 bif t30 then
 let t31:=CP t25.1 t25.2 t26.1 t26.2 t27.1 t27.2 t28.1 t28.2 t29.1 t29.2
 k (t31.1,t31.2.1,t31.2.2.1,t31.2.2.2.1,t31.2.2.2.2.1,t31.2.2.2.2.2.1,t31.2.2.2.2.2.2.1,t31.2.2.2.2.2.2.2.1,t31.2.2.2.2.2.2.2.2.1,t31.2.2.2.2.2.2.2.2.2) else none else none else none else none else none else none else none else none else none else none else none else none else none else none else none else none
theorem DZ.run:xfn Tryz.prog ⟨[(109,Al.sp BG BF),(162,Dt.sp CH CG),(163,By.sp BU BT),(164,Az.sp CP CN)],[],[]⟩ [] 60 Tryz.f112 [.agg ⟨[.bool A7,.string AA,.bool AG,.string AF,.bool AE,.string AD,.bool AI,.string AH,.bool AK,.string AJ]⟩,.agg ⟨[.bool AC,.string AB,.bool AM,.string AL,.bool AQ,.string AP,.bool AS,.string AR,.bool AO,.string AN]⟩] []=DZ.K BG BF CH CG BU BT CP CN A7 AA AG AF AE AD AI AH AK AJ AC AB AM AL AQ AP AS AR AO AN (fun r=>some (.agg ⟨[.bool r.1,.string r.2.1,.bool r.2.2.1,.string r.2.2.2.1,.bool r.2.2.2.2.1,.string r.2.2.2.2.2.1,.bool r.2.2.2.2.2.2.1,.string r.2.2.2.2.2.2.2.1,.bool r.2.2.2.2.2.2.2.2.1,.string r.2.2.2.2.2.2.2.2.2]⟩,[])):=by kernel_rfl
def DZ.o:Option (TY5):=DZ.K Al Al.pre Dt Dt.pre By By.pre Az Az.pre A7 AA AG AF AE AD AI AH AK AJ AC AB AM AL AQ AP AS AR AO AN some
def DZ.pre:Bool:=(DZ.o A7 AA AG AF AE AD AI AH AK AJ AC AB AM AL AQ AP AS AR AO AN).isSome
def DZ:TY5:=(DZ.o A7 AA AG AF AE AD AI AH AK AJ AC AB AM AL AQ AP AS AR AO AN).getD default
theorem DZ.nat (k:TY5→Option R):DZ.K BG BF CH CG BU BT CP CN A7 AA AG AF AE AD AI AH AK AJ AC AB AM AL AQ AP AS AR AO AN k=(DZ.K BG BF CH CG BU BT CP CN A7 AA AG AF AE AD AI AH AK AJ AC AB AM AL AQ AP AS AR AO AN some).bind k:=by
 simp only [DZ.K,bcond,Option.bind_some,Option.bind_none]
theorem DZ.os {j k:Nat} {x y:Q} (hx:x.Bd j) (hy:y.Bd k) (hj:j≤PRM) (hk:k≤PRM):
  DZ.o (dI x.c0).1 (dI x.c0).2 (dI x.c1).1 (dI x.c1).2 (dI x.c2).1 (dI x.c2).2 (dI x.c3).1 (dI x.c3).2 (dI x.d).1 (dI x.d).2 (dI y.c0).1 (dI y.c0).2 (dI y.c1).1 (dI y.c1).2 (dI y.c2).1 (dI y.c2).2 (dI y.c3).1 (dI y.c3).2 (dI y.d).1 (dI y.d).2=some (C5 (bif x.ok&&y.ok then qadd x y else Q.zero)):=by
 unfold PRM at hj hk
 have hL:j≤LIM:=by unfold LIM; omega
 have hM:k≤LIM:=by unfold LIM; omega
 have v1:=Al.ps hx hL
 have v2:=Al.es hx hL
 have v3:=Al.ps hy hM
 have v4:=Al.es hy hM
 simp only [DZ.o,DZ.K,v1,v2,v3,v4,cond_true]
 cases ox:x.ok with
 |false=>simp only [Bool.not_false,cond_true,Bool.false_and,cond_false,JN]
 |true=>
 cases oy:y.ok with
 |false=>simp only [zN,Bool.not_false,cond_true,Bool.and_false,cond_false,JN]
 |true=>
 have m:∀ {a b:Int},Bd j a→Bd k b→By.pre (dI a).1 (dI a).2 (dI b).1 (dI b).2=true:=fun ha hb=>I6 ha hb hL hM
 have m':∀ {a b:Int},Bd k a→Bd j b→By.pre (dI a).1 (dI a).2 (dI b).1 (dI b).2=true:=fun ha hb=>I6 ha hb hM hL
 have ad:∀ {a b c d:Int},Bd j a→Bd k b→Bd k c→Bd j d→Dt.pre (dI (a*b)).1 (dI (a*b)).2 (dI (c*d)).1 (dI (c*d)).2=true:=fun ha hb hc hd=>Mq (ha.mul hb) (hc.mul hd) (by unfold LIM; omega) (by unfold LIM; omega)
 have l1:=Az.ps (q:=qsum x y) (MM hx hy) (by unfold LIM; omega) (Fp ox oy)
 have l2:=Az.es (q:=qsum x y) (MM hx hy) (by unfold LIM; omega) (Fp ox oy)
 simp only [qsum] at l1 l2
 simp only [zN,cond_false,m hx.c0 hy.d,m' hy.c0 hx.d,m hx.c1 hy.d,m' hy.c1 hx.d,m hx.c2 hy.d,m' hy.c2 hx.d,m hx.c3 hy.d,m' hy.c3 hx.d,m hx.d hy.d,Ey,ad hx.c0 hy.d hy.c0 hx.d,ad hx.c1 hy.d hy.c1 hx.d,ad hx.c2 hy.d hy.c2 hx.d,ad hx.c3 hy.d hy.c3 hx.d,Gp,l1,l2,cond_true,Bool.and_self]
 rfl
theorem DZ.ps {j k:Nat} {x y:Q} (hx:x.Bd j) (hy:y.Bd k) (hj:j≤PRM) (hk:k≤PRM):DZ.pre (dI x.c0).1 (dI x.c0).2 (dI x.c1).1 (dI x.c1).2 (dI x.c2).1 (dI x.c2).2 (dI x.c3).1 (dI x.c3).2 (dI x.d).1 (dI x.d).2 (dI y.c0).1 (dI y.c0).2 (dI y.c1).1 (dI y.c1).2 (dI y.c2).1 (dI y.c2).2 (dI y.c3).1 (dI y.c3).2 (dI y.d).1 (dI y.d).2=true:=Ew (DZ.os hx hy hj hk)
theorem DZ.es {j k:Nat} {x y:Q} (hx:x.Bd j) (hy:y.Bd k) (hj:j≤PRM) (hk:k≤PRM):DZ (dI x.c0).1 (dI x.c0).2 (dI x.c1).1 (dI x.c1).2 (dI x.c2).1 (dI x.c2).2 (dI x.c3).1 (dI x.c3).2 (dI x.d).1 (dI x.d).2 (dI y.c0).1 (dI y.c0).2 (dI y.c1).1 (dI y.c1).2 (dI y.c2).1 (dI y.c2).2 (dI y.c3).1 (dI y.c3).2 (dI y.d).1 (dI y.d).2=C5 (bif x.ok&&y.ok then qadd x y else Q.zero):=FP (DZ.os hx hy hj hk)
end
theorem DZ.ok:SOK Tryz.prog 112 (DZ.sp DZ DZ.pre):=by
 refine Dl (E:=⟨[(109,Al.sp Al Al.pre),(162,Dt.sp Dt Dt.pre),(163,By.sp By By.pre),(164,Az.sp Az Az.pre)],[],[]⟩) (L:=[]) ⟨(Aa Al.ok (Aa Dt.ok (Aa By.ok (Aa Az.ok Ac)))),Aq,Aj,Ap⟩ 60 Tryz.func112 (by decide) rfl Bf fun vs bl v bl' h=> ?_
 unfold DZ.sp at h
 split at h
 ·rename_i A7 AA AG AF AE AD AI AH AK AJ AC AB AM AL AQ AP AS AR AO AN
  simp only [zS,zP] at h
  obtain ⟨hp,rfl,rfl⟩:=h
  have hr:=DZ.run Al Al.pre Dt Dt.pre By By.pre Az Az.pre A7 AA AG AF AE AD AI AH AK AJ AC AB AM AL AQ AP AS AR AO AN
  rw [DZ.nat] at hr
  obtain ⟨r,h2⟩:=Option.isSome_iff_exists.1 (hp:(DZ.o A7 AA AG AF AE AD AI AH AK AJ AC AB AM AL AQ AP AS AR AO AN).isSome=true)
  have h3:DZ A7 AA AG AF AE AD AI AH AK AJ AC AB AM AL AQ AP AS AR AO AN=r:=by unfold DZ; rw [h2]; rfl
  have h4:DZ.K Al Al.pre Dt Dt.pre By By.pre Az Az.pre A7 AA AG AF AE AD AI AH AK AJ AC AB AM AL AQ AP AS AR AO AN some=some r:=h2
  rw [h4,Option.bind_some] at hr
  rw [h3]
  exact ⟨hr,by simp [okV,Nat.blt],clo_spec 8 _ (by kernel_rfl),Bg (by kernel_rfl)⟩
 ·cases h
section
variable {R:Type} (BG:TF5 (Bool)) (BF:TF5 Bool) (BX:Bool→ByteArray→(Bool×ByteArray)) (A7:Bool) (AA:ByteArray) (AG:Bool) (AF:ByteArray) (AE:Bool) (AD:ByteArray) (AI:Bool) (AH:ByteArray) (AK:Bool) (AJ:ByteArray)
def Dp.K (k:TY5→Option R):Option R:=
 let t0:=BF A7 AA AG AF AE AD AI AH AK AJ
 bif t0 then
 let t1:=BG A7 AA AG AF AE AD AI AH AK AJ
 bif !t1 then k (false,{data:= #[]},false,{data:= #[]},false,{data:= #[]},false,{data:= #[]},false,{data:= #[]}) else
 let t2:=BX A7 AA
 let t3:=BX AG AF
 let t4:=BX AE AD
 let t5:=BX AI AH
 k (t2.1,t2.2,t3.1,t3.2,t4.1,t4.2,t5.1,t5.2,AK,AJ) else none
theorem Dp.run:xfn Tryz.prog ⟨[(109,Al.sp BG BF),(193,EA.sp BX)],[],[]⟩ [] 60 Tryz.f195 [.agg ⟨[.bool A7,.string AA,.bool AG,.string AF,.bool AE,.string AD,.bool AI,.string AH,.bool AK,.string AJ]⟩] []=Dp.K BG BF BX A7 AA AG AF AE AD AI AH AK AJ (fun r=>some (.agg ⟨[.bool r.1,.string r.2.1,.bool r.2.2.1,.string r.2.2.2.1,.bool r.2.2.2.2.1,.string r.2.2.2.2.2.1,.bool r.2.2.2.2.2.2.1,.string r.2.2.2.2.2.2.2.1,.bool r.2.2.2.2.2.2.2.2.1,.string r.2.2.2.2.2.2.2.2.2]⟩,[])):=by kernel_rfl
def Dp.o:Option (TY5):=Dp.K Al Al.pre EA A7 AA AG AF AE AD AI AH AK AJ some
def Dp.pre:Bool:=(Dp.o A7 AA AG AF AE AD AI AH AK AJ).isSome
def Dp:TY5:=(Dp.o A7 AA AG AF AE AD AI AH AK AJ).getD default
theorem Dp.nat (k:TY5→Option R):Dp.K BG BF BX A7 AA AG AF AE AD AI AH AK AJ k=(Dp.K BG BF BX A7 AA AG AF AE AD AI AH AK AJ some).bind k:=by
 simp only [Dp.K,bcond,Option.bind_some,Option.bind_none]
theorem Dp.os {k:Nat} {x:Q} (h:x.Bd k) (hk:k≤PRM):Dp.o (dI x.c0).1 (dI x.c0).2 (dI x.c1).1 (dI x.c1).2 (dI x.c2).1 (dI x.c2).2 (dI x.c3).1 (dI x.c3).2 (dI x.d).1 (dI x.d).2=some (C5 (bif x.ok then qneg x else Q.zero)):=by
 have hL:k≤LIM:=by unfold LIM; unfold PRM at hk; omega
 simp only [Dp.o,Dp.K,Al.ps h hL,Al.es h hL,Gn,cond_true]
 cases x.ok with
 |false=>simp only [Bool.not_false,cond_true,cond_false,JN]
 |true=>rfl
theorem Dp.ps {k:Nat} {x:Q} (h:x.Bd k) (hk:k≤PRM):Dp.pre (dI x.c0).1 (dI x.c0).2 (dI x.c1).1 (dI x.c1).2 (dI x.c2).1 (dI x.c2).2 (dI x.c3).1 (dI x.c3).2 (dI x.d).1 (dI x.d).2=true:=Ew (Dp.os h hk)
theorem Dp.es {k:Nat} {x:Q} (h:x.Bd k) (hk:k≤PRM):Dp (dI x.c0).1 (dI x.c0).2 (dI x.c1).1 (dI x.c1).2 (dI x.c2).1 (dI x.c2).2 (dI x.c3).1 (dI x.c3).2 (dI x.d).1 (dI x.d).2=C5 (bif x.ok then qneg x else Q.zero):=FP (Dp.os h hk)
end
theorem Dp.ok:SOK Tryz.prog 195 (Dp.sp Dp Dp.pre):=by
 refine Dl (E:=⟨[(109,Al.sp Al Al.pre),(193,EA.sp EA)],[],[]⟩) (L:=[]) ⟨(Aa Al.ok (Aa EA.ok Ac)),Aq,Aj,Ap⟩ 60 Tryz.func195 (by decide) rfl Bf fun vs bl v bl' h=> ?_
 unfold Dp.sp at h
 split at h
 ·rename_i A7 AA AG AF AE AD AI AH AK AJ
  simp only [zS,zP] at h
  obtain ⟨hp,rfl,rfl⟩:=h
  have hr:=Dp.run Al Al.pre EA A7 AA AG AF AE AD AI AH AK AJ
  rw [Dp.nat] at hr
  obtain ⟨r,h2⟩:=Option.isSome_iff_exists.1 (hp:(Dp.o A7 AA AG AF AE AD AI AH AK AJ).isSome=true)
  have h3:Dp A7 AA AG AF AE AD AI AH AK AJ=r:=by unfold Dp; rw [h2]; rfl
  have h4:Dp.K Al Al.pre EA A7 AA AG AF AE AD AI AH AK AJ some=some r:=h2
  rw [h4,Option.bind_some] at hr
  rw [h3]
  exact ⟨hr,by simp [okV,Nat.blt],clo_spec 8 _ (by kernel_rfl),Bg (by kernel_rfl)⟩
 ·cases h
section
variable {R:Type} (DY:TF10 (TY5)) (DU:TF10 Bool) (DW:TF5 (TY5)) (DS:TF5 Bool) (A7:Bool) (AA:ByteArray) (AG:Bool) (AF:ByteArray) (AE:Bool) (AD:ByteArray) (AI:Bool) (AH:ByteArray) (AK:Bool) (AJ:ByteArray) (AC:Bool) (AB:ByteArray) (AM:Bool) (AL:ByteArray) (AQ:Bool) (AP:ByteArray) (AS:Bool) (AR:ByteArray) (AO:Bool) (AN:ByteArray)
def Dn.K (k:TY5→Option R):Option R:=
 let t0:=DS AC AB AM AL AQ AP AS AR AO AN
 bif t0 then
 let t1:=DW AC AB AM AL AQ AP AS AR AO AN
 let t2:=DU A7 AA AG AF AE AD AI AH AK AJ t1.1 t1.2.1 t1.2.2.1 t1.2.2.2.1 t1.2.2.2.2.1 t1.2.2.2.2.2.1 t1.2.2.2.2.2.2.1 t1.2.2.2.2.2.2.2.1 t1.2.2.2.2.2.2.2.2.1 t1.2.2.2.2.2.2.2.2.2
 bif t2 then
 let t3:=DY A7 AA AG AF AE AD AI AH AK AJ t1.1 t1.2.1 t1.2.2.1 t1.2.2.2.1 t1.2.2.2.2.1 t1.2.2.2.2.2.1 t1.2.2.2.2.2.2.1 t1.2.2.2.2.2.2.2.1 t1.2.2.2.2.2.2.2.2.1 t1.2.2.2.2.2.2.2.2.2
 k (t3.1,t3.2.1,t3.2.2.1,t3.2.2.2.1,t3.2.2.2.2.1,t3.2.2.2.2.2.1,t3.2.2.2.2.2.2.1,t3.2.2.2.2.2.2.2.1,t3.2.2.2.2.2.2.2.2.1,t3.2.2.2.2.2.2.2.2.2) else none else none
theorem Dn.run:xfn Tryz.prog ⟨[(112,DZ.sp DY DU),(195,Dp.sp DW DS)],[],[]⟩ [] 60 Tryz.f166 [.agg ⟨[.bool A7,.string AA,.bool AG,.string AF,.bool AE,.string AD,.bool AI,.string AH,.bool AK,.string AJ]⟩,.agg ⟨[.bool AC,.string AB,.bool AM,.string AL,.bool AQ,.string AP,.bool AS,.string AR,.bool AO,.string AN]⟩] []=Dn.K DY DU DW DS A7 AA AG AF AE AD AI AH AK AJ AC AB AM AL AQ AP AS AR AO AN (fun r=>some (.agg ⟨[.bool r.1,.string r.2.1,.bool r.2.2.1,.string r.2.2.2.1,.bool r.2.2.2.2.1,.string r.2.2.2.2.2.1,.bool r.2.2.2.2.2.2.1,.string r.2.2.2.2.2.2.2.1,.bool r.2.2.2.2.2.2.2.2.1,.string r.2.2.2.2.2.2.2.2.2]⟩,[])):=by kernel_rfl
def Dn.o:Option (TY5):=Dn.K DZ DZ.pre Dp Dp.pre A7 AA AG AF AE AD AI AH AK AJ AC AB AM AL AQ AP AS AR AO AN some
def Dn.pre:Bool:=(Dn.o A7 AA AG AF AE AD AI AH AK AJ AC AB AM AL AQ AP AS AR AO AN).isSome
def Dn:TY5:=(Dn.o A7 AA AG AF AE AD AI AH AK AJ AC AB AM AL AQ AP AS AR AO AN).getD default
theorem Dn.nat (k:TY5→Option R):Dn.K DY DU DW DS A7 AA AG AF AE AD AI AH AK AJ AC AB AM AL AQ AP AS AR AO AN k=(Dn.K DY DU DW DS A7 AA AG AF AE AD AI AH AK AJ AC AB AM AL AQ AP AS AR AO AN some).bind k:=by
 simp only [Dn.K,bcond,Option.bind_some,Option.bind_none]
theorem Dn.os {j k:Nat} {x y:Q} (hx:x.Bd j) (hy:y.Bd k) (hj:j≤PRM) (hk:k≤PRM):Dn.o (dI x.c0).1 (dI x.c0).2 (dI x.c1).1 (dI x.c1).2 (dI x.c2).1 (dI x.c2).2 (dI x.c3).1 (dI x.c3).2 (dI x.d).1 (dI x.d).2 (dI y.c0).1 (dI y.c0).2 (dI y.c1).1 (dI y.c1).2 (dI y.c2).1 (dI y.c2).2 (dI y.c3).1 (dI y.c3).2 (dI y.d).1 (dI y.d).2=some (C5 (bif x.ok&&y.ok then qsub x y else Q.zero)):=by
 have n1:=Dp.ps hy hk
 have n2:=Dp.es hy hk
 cases oy:y.ok with
 | true=>
  rw [oy,cond_true] at n2
  have a1:=DZ.ps hx (MO hy) hj hk
  have a2:=DZ.es hx (MO hy) hj hk
  rw [MN,oy] at a2
  simp only [Dn.o,Dn.K,n1,n2,C5,a1,a2,cond_true]
  rfl
 | false=>
  rw [oy,cond_false] at n2
  have a1:=DZ.ps hx (GF k) hj hk
  have a2:=DZ.es hx (GF k) hj hk
  rw [OT] at a2
  simp only [Dn.o,Dn.K,n1,n2,C5,a1,a2,cond_true,Bool.and_false,cond_false]
theorem Dn.ps {j k:Nat} {x y:Q} (hx:x.Bd j) (hy:y.Bd k) (hj:j≤PRM) (hk:k≤PRM):Dn.pre (dI x.c0).1 (dI x.c0).2 (dI x.c1).1 (dI x.c1).2 (dI x.c2).1 (dI x.c2).2 (dI x.c3).1 (dI x.c3).2 (dI x.d).1 (dI x.d).2 (dI y.c0).1 (dI y.c0).2 (dI y.c1).1 (dI y.c1).2 (dI y.c2).1 (dI y.c2).2 (dI y.c3).1 (dI y.c3).2 (dI y.d).1 (dI y.d).2=true:=Ew (Dn.os hx hy hj hk)
theorem Dn.es {j k:Nat} {x y:Q} (hx:x.Bd j) (hy:y.Bd k) (hj:j≤PRM) (hk:k≤PRM):Dn (dI x.c0).1 (dI x.c0).2 (dI x.c1).1 (dI x.c1).2 (dI x.c2).1 (dI x.c2).2 (dI x.c3).1 (dI x.c3).2 (dI x.d).1 (dI x.d).2 (dI y.c0).1 (dI y.c0).2 (dI y.c1).1 (dI y.c1).2 (dI y.c2).1 (dI y.c2).2 (dI y.c3).1 (dI y.c3).2 (dI y.d).1 (dI y.d).2=C5 (bif x.ok&&y.ok then qsub x y else Q.zero):=FP (Dn.os hx hy hj hk)
end
theorem Dn.ok:SOK Tryz.prog 166 (Dn.sp Dn Dn.pre):=by
 refine Dl (E:=⟨[(112,DZ.sp DZ DZ.pre),(195,Dp.sp Dp Dp.pre)],[],[]⟩) (L:=[]) ⟨(Aa DZ.ok (Aa Dp.ok Ac)),Aq,Aj,Ap⟩ 60 Tryz.func166 (by decide) rfl Bf fun vs bl v bl' h=> ?_
 unfold Dn.sp at h
 split at h
 ·rename_i A7 AA AG AF AE AD AI AH AK AJ AC AB AM AL AQ AP AS AR AO AN
  simp only [zS,zP] at h
  obtain ⟨hp,rfl,rfl⟩:=h
  have hr:=Dn.run DZ DZ.pre Dp Dp.pre A7 AA AG AF AE AD AI AH AK AJ AC AB AM AL AQ AP AS AR AO AN
  rw [Dn.nat] at hr
  obtain ⟨r,h2⟩:=Option.isSome_iff_exists.1 (hp:(Dn.o A7 AA AG AF AE AD AI AH AK AJ AC AB AM AL AQ AP AS AR AO AN).isSome=true)
  have h3:Dn A7 AA AG AF AE AD AI AH AK AJ AC AB AM AL AQ AP AS AR AO AN=r:=by unfold Dn; rw [h2]; rfl
  have h4:Dn.K DZ DZ.pre Dp Dp.pre A7 AA AG AF AE AD AI AH AK AJ AC AB AM AL AQ AP AS AR AO AN some=some r:=h2
  rw [h4,Option.bind_some] at hr
  rw [h3]
  exact ⟨hr,by simp [okV,Nat.blt],clo_spec 8 _ (by kernel_rfl),Bg (by kernel_rfl)⟩
 ·cases h
section
variable {R:Type} (CS:TF5 (Int)) (CR:TF5 Bool) (DV:TF10 (TY5)) (DR:TF10 Bool) (A7:Bool) (AA:ByteArray) (AG:Bool) (AF:ByteArray) (AE:Bool) (AD:ByteArray) (AI:Bool) (AH:ByteArray) (AK:Bool) (AJ:ByteArray) (AC:Bool) (AB:ByteArray) (AM:Bool) (AL:ByteArray) (AQ:Bool) (AP:ByteArray) (AS:Bool) (AR:ByteArray) (AO:Bool) (AN:ByteArray)
def Cp.K (k:(Int)→Option R):Option R:=
 let t0:=DR A7 AA AG AF AE AD AI AH AK AJ AC AB AM AL AQ AP AS AR AO AN
 bif t0 then
 let t1:=DV A7 AA AG AF AE AD AI AH AK AJ AC AB AM AL AQ AP AS AR AO AN
 let t2:=CR t1.1 t1.2.1 t1.2.2.1 t1.2.2.2.1 t1.2.2.2.2.1 t1.2.2.2.2.2.1 t1.2.2.2.2.2.2.1 t1.2.2.2.2.2.2.2.1 t1.2.2.2.2.2.2.2.2.1 t1.2.2.2.2.2.2.2.2.2
 bif t2 then
 let t3:=CS t1.1 t1.2.1 t1.2.2.1 t1.2.2.2.1 t1.2.2.2.2.1 t1.2.2.2.2.2.1 t1.2.2.2.2.2.2.1 t1.2.2.2.2.2.2.2.1 t1.2.2.2.2.2.2.2.2.1 t1.2.2.2.2.2.2.2.2.2
 k (t3) else none else none
theorem Cp.run:xfn Tryz.prog ⟨[(116,Bz.sp CS CR),(166,Dn.sp DV DR)],[],[]⟩ [] 60 Tryz.f115 [.agg ⟨[.bool A7,.string AA,.bool AG,.string AF,.bool AE,.string AD,.bool AI,.string AH,.bool AK,.string AJ]⟩,.agg ⟨[.bool AC,.string AB,.bool AM,.string AL,.bool AQ,.string AP,.bool AS,.string AR,.bool AO,.string AN]⟩] []=Cp.K CS CR DV DR A7 AA AG AF AE AD AI AH AK AJ AC AB AM AL AQ AP AS AR AO AN (fun r=>some (.int .i64 r,[])):=by kernel_rfl
def Cp.o:Option (Int):=Cp.K Bz Bz.pre Dn Dn.pre A7 AA AG AF AE AD AI AH AK AJ AC AB AM AL AQ AP AS AR AO AN some
def Cp.pre:Bool:=(Cp.o A7 AA AG AF AE AD AI AH AK AJ AC AB AM AL AQ AP AS AR AO AN).isSome
def Cp:Int:=(Cp.o A7 AA AG AF AE AD AI AH AK AJ AC AB AM AL AQ AP AS AR AO AN).getD default
theorem Cp.nat (k:(Int)→Option R):Cp.K CS CR DV DR A7 AA AG AF AE AD AI AH AK AJ AC AB AM AL AQ AP AS AR AO AN k=(Cp.K CS CR DV DR A7 AA AG AF AE AD AI AH AK AJ AC AB AM AL AQ AP AS AR AO AN some).bind k:=by
 simp only [Cp.K,bcond,Option.bind_some,Option.bind_none]
theorem Cp.os {j k:Nat} {x y:Q} (hx:x.Bd j) (hy:y.Bd k) (h:2*(j+k)+5≤PRM):Cp.o (dI x.c0).1 (dI x.c0).2 (dI x.c1).1 (dI x.c1).2 (dI x.c2).1 (dI x.c2).2 (dI x.c3).1 (dI x.c3).2 (dI x.d).1 (dI x.d).2 (dI y.c0).1 (dI y.c0).2 (dI y.c1).1 (dI y.c1).2 (dI y.c2).1 (dI y.c2).2 (dI y.c3).1 (dI y.c3).2 (dI y.d).1 (dI y.d).2=some (bif x.ok&&y.ok then (qsub x y).sg else 0):=by
 have n1:=Dn.ps hx hy (by omega) (by omega)
 have n2:=Dn.es hx hy (by omega) (by omega)
 cases ho:x.ok&&y.ok with
 | true=>
  rw [ho,cond_true] at n2
  simp only [zB] at ho
  have oq:(qsub x y).ok=true:=qadd_ok ho.1 (by rw [MN]; exact ho.2)
  have bq:(qsub x y).Bd (j+k+1):=qadd_bd hx (MO hy) ho.1 (by rw [MN]; exact ho.2)
  have s1:=Bz.ps bq (by omega)
  have s2:=Bz.es bq (by omega)
  rw [oq] at s2
  simp only [Cp.o,Cp.K,n1,n2,C5,s1,s2,cond_true]
 | false=>
  rw [ho,cond_false] at n2
  have s1:=Bz.ps (GF 0) (by omega)
  have s2:=Bz.es (GF 0) (by omega)
  rw [OT] at s2
  simp only [Cp.o,Cp.K,n1,n2,C5,s1,s2,cond_true,cond_false]
theorem Cp.ps {j k:Nat} {x y:Q} (hx:x.Bd j) (hy:y.Bd k) (h:2*(j+k)+5≤PRM):Cp.pre (dI x.c0).1 (dI x.c0).2 (dI x.c1).1 (dI x.c1).2 (dI x.c2).1 (dI x.c2).2 (dI x.c3).1 (dI x.c3).2 (dI x.d).1 (dI x.d).2 (dI y.c0).1 (dI y.c0).2 (dI y.c1).1 (dI y.c1).2 (dI y.c2).1 (dI y.c2).2 (dI y.c3).1 (dI y.c3).2 (dI y.d).1 (dI y.d).2=true:=Ew (Cp.os hx hy h)
theorem Cp.es {j k:Nat} {x y:Q} (hx:x.Bd j) (hy:y.Bd k) (h:2*(j+k)+5≤PRM):Cp (dI x.c0).1 (dI x.c0).2 (dI x.c1).1 (dI x.c1).2 (dI x.c2).1 (dI x.c2).2 (dI x.c3).1 (dI x.c3).2 (dI x.d).1 (dI x.d).2 (dI y.c0).1 (dI y.c0).2 (dI y.c1).1 (dI y.c1).2 (dI y.c2).1 (dI y.c2).2 (dI y.c3).1 (dI y.c3).2 (dI y.d).1 (dI y.d).2=bif x.ok&&y.ok then (qsub x y).sg else 0:=FP (Cp.os hx hy h)
end
theorem Cp.ok:SOK Tryz.prog 115 (Cp.sp Cp Cp.pre):=by
 refine Dl (E:=⟨[(116,Bz.sp Bz Bz.pre),(166,Dn.sp Dn Dn.pre)],[],[]⟩) (L:=[]) ⟨(Aa Bz.ok (Aa Dn.ok Ac)),Aq,Aj,Ap⟩ 60 Tryz.func115 (by decide) rfl Bf fun vs bl v bl' h=> ?_
 unfold Cp.sp at h
 split at h
 ·rename_i A7 AA AG AF AE AD AI AH AK AJ AC AB AM AL AQ AP AS AR AO AN
  simp only [zS,zP] at h
  obtain ⟨hp,rfl,rfl⟩:=h
  have hr:=Cp.run Bz Bz.pre Dn Dn.pre A7 AA AG AF AE AD AI AH AK AJ AC AB AM AL AQ AP AS AR AO AN
  rw [Cp.nat] at hr
  obtain ⟨r,h2⟩:=Option.isSome_iff_exists.1 (hp:(Cp.o A7 AA AG AF AE AD AI AH AK AJ AC AB AM AL AQ AP AS AR AO AN).isSome=true)
  have h3:Cp A7 AA AG AF AE AD AI AH AK AJ AC AB AM AL AQ AP AS AR AO AN=r:=by unfold Cp; rw [h2]; rfl
  have h4:Cp.K Bz Bz.pre Dn Dn.pre A7 AA AG AF AE AD AI AH AK AJ AC AB AM AL AQ AP AS AR AO AN some=some r:=h2
  rw [h4,Option.bind_some] at hr
  rw [h3]
  exact ⟨hr,by simp [okV,Nat.blt],clo_spec 8 _ (by kernel_rfl),Bg (by kernel_rfl)⟩
 ·cases h
section
variable {R:Type} (BG:TF5 (Bool)) (BF:TF5 Bool) (C8:TF10 (TY5)) (C7:TF10 Bool) (A7:Bool) (AA:ByteArray) (AG:Bool) (AF:ByteArray) (AE:Bool) (AD:ByteArray) (AI:Bool) (AH:ByteArray) (AK:Bool) (AJ:ByteArray) (AC:Bool) (AB:ByteArray) (AM:Bool) (AL:ByteArray) (AQ:Bool) (AP:ByteArray) (AS:Bool) (AR:ByteArray) (AO:Bool) (AN:ByteArray)
def Cz.K (k:TY5→Option R):Option R:=
 let t0:=BF A7 AA AG AF AE AD AI AH AK AJ
 bif t0 then
 let t1:=BG A7 AA AG AF AE AD AI AH AK AJ
 bif !t1 then k (false,{data:= #[]},false,{data:= #[]},false,{data:= #[]},false,{data:= #[]},false,{data:= #[]}) else
 let t2:=BF AC AB AM AL AQ AP AS AR AO AN
 bif t2 then
 let t3:=BG AC AB AM AL AQ AP AS AR AO AN
 bif !t3 then k (false,{data:= #[]},false,{data:= #[]},false,{data:= #[]},false,{data:= #[]},false,{data:= #[]}) else
 let t4:=C7 A7 AA AG AF AE AD AI AH AK AJ AC AB AM AL AQ AP AS AR AO AN
 bif t4 then
 let t5:=C8 A7 AA AG AF AE AD AI AH AK AJ AC AB AM AL AQ AP AS AR AO AN
 k (t5.1,t5.2.1,t5.2.2.1,t5.2.2.2.1,t5.2.2.2.2.1,t5.2.2.2.2.2.1,t5.2.2.2.2.2.2.1,t5.2.2.2.2.2.2.2.1,t5.2.2.2.2.2.2.2.2.1,t5.2.2.2.2.2.2.2.2.2) else none else none else none
theorem Cz.run:xfn Tryz.prog ⟨[(109,Al.sp BG BF),(161,Bw.sp C8 C7)],[],[]⟩ [] 60 Tryz.f110 [.agg ⟨[.bool A7,.string AA,.bool AG,.string AF,.bool AE,.string AD,.bool AI,.string AH,.bool AK,.string AJ]⟩,.agg ⟨[.bool AC,.string AB,.bool AM,.string AL,.bool AQ,.string AP,.bool AS,.string AR,.bool AO,.string AN]⟩] []=Cz.K BG BF C8 C7 A7 AA AG AF AE AD AI AH AK AJ AC AB AM AL AQ AP AS AR AO AN (fun r=>some (.agg ⟨[.bool r.1,.string r.2.1,.bool r.2.2.1,.string r.2.2.2.1,.bool r.2.2.2.2.1,.string r.2.2.2.2.2.1,.bool r.2.2.2.2.2.2.1,.string r.2.2.2.2.2.2.2.1,.bool r.2.2.2.2.2.2.2.2.1,.string r.2.2.2.2.2.2.2.2.2]⟩,[])):=by kernel_rfl
def Cz.o:Option (TY5):=Cz.K Al Al.pre Bw Bw.pre A7 AA AG AF AE AD AI AH AK AJ AC AB AM AL AQ AP AS AR AO AN some
def Cz.pre:Bool:=(Cz.o A7 AA AG AF AE AD AI AH AK AJ AC AB AM AL AQ AP AS AR AO AN).isSome
def Cz:TY5:=(Cz.o A7 AA AG AF AE AD AI AH AK AJ AC AB AM AL AQ AP AS AR AO AN).getD default
theorem Cz.nat (k:TY5→Option R):Cz.K BG BF C8 C7 A7 AA AG AF AE AD AI AH AK AJ AC AB AM AL AQ AP AS AR AO AN k=(Cz.K BG BF C8 C7 A7 AA AG AF AE AD AI AH AK AJ AC AB AM AL AQ AP AS AR AO AN some).bind k:=by
 simp only [Cz.K,bcond,Option.bind_some,Option.bind_none]
theorem Cz.os {j k:Nat} {x y:Q} (hx:x.Bd j) (hy:y.Bd k) (hj:j≤PRM) (hk:k≤PRM):Cz.o (dI x.c0).1 (dI x.c0).2 (dI x.c1).1 (dI x.c1).2 (dI x.c2).1 (dI x.c2).2 (dI x.c3).1 (dI x.c3).2 (dI x.d).1 (dI x.d).2 (dI y.c0).1 (dI y.c0).2 (dI y.c1).1 (dI y.c1).2 (dI y.c2).1 (dI y.c2).2 (dI y.c3).1 (dI y.c3).2 (dI y.d).1 (dI y.d).2=some (C5 (bif x.ok&&y.ok then qmul x y else Q.zero)):=by
 have hL:j≤LIM:=by unfold LIM; unfold PRM at hj; omega
 have hM:k≤LIM:=by unfold LIM; unfold PRM at hk; omega
 have v1:=Al.ps hx hL
 have v2:=Al.es hx hL
 have v3:=Al.ps hy hM
 have v4:=Al.es hy hM
 simp only [Cz.o,Cz.K,v1,v2,v3,v4,cond_true]
 cases ox:x.ok with
 |false=>simp only [Bool.not_false,cond_true,Bool.false_and,cond_false,JN]
 |true=>
 cases oy:y.ok with
 |false=>simp only [zN,Bool.not_false,cond_true,Bool.and_false,cond_false,JN]
 |true=>
 have p1:=Bw.ps hx hy hj hk (Fp ox oy)
 have p2:=Bw.es hx hy hj hk (Fp ox oy)
 simp only [zN,cond_false,p1,p2,cond_true,Bool.and_self]
 rfl
theorem Cz.ps {j k:Nat} {x y:Q} (hx:x.Bd j) (hy:y.Bd k) (hj:j≤PRM) (hk:k≤PRM):Cz.pre (dI x.c0).1 (dI x.c0).2 (dI x.c1).1 (dI x.c1).2 (dI x.c2).1 (dI x.c2).2 (dI x.c3).1 (dI x.c3).2 (dI x.d).1 (dI x.d).2 (dI y.c0).1 (dI y.c0).2 (dI y.c1).1 (dI y.c1).2 (dI y.c2).1 (dI y.c2).2 (dI y.c3).1 (dI y.c3).2 (dI y.d).1 (dI y.d).2=true:=Ew (Cz.os hx hy hj hk)
theorem Cz.es {j k:Nat} {x y:Q} (hx:x.Bd j) (hy:y.Bd k) (hj:j≤PRM) (hk:k≤PRM):Cz (dI x.c0).1 (dI x.c0).2 (dI x.c1).1 (dI x.c1).2 (dI x.c2).1 (dI x.c2).2 (dI x.c3).1 (dI x.c3).2 (dI x.d).1 (dI x.d).2 (dI y.c0).1 (dI y.c0).2 (dI y.c1).1 (dI y.c1).2 (dI y.c2).1 (dI y.c2).2 (dI y.c3).1 (dI y.c3).2 (dI y.d).1 (dI y.d).2=C5 (bif x.ok&&y.ok then qmul x y else Q.zero):=FP (Cz.os hx hy hj hk)
end
theorem Cz.ok:SOK Tryz.prog 110 (Cz.sp Cz Cz.pre):=by
 refine Dl (E:=⟨[(109,Al.sp Al Al.pre),(161,Bw.sp Bw Bw.pre)],[],[]⟩) (L:=[]) ⟨(Aa Al.ok (Aa Bw.ok Ac)),Aq,Aj,Ap⟩ 60 Tryz.func110 (by decide) rfl Bf fun vs bl v bl' h=> ?_
 unfold Cz.sp at h
 split at h
 ·rename_i A7 AA AG AF AE AD AI AH AK AJ AC AB AM AL AQ AP AS AR AO AN
  simp only [zS,zP] at h
  obtain ⟨hp,rfl,rfl⟩:=h
  have hr:=Cz.run Al Al.pre Bw Bw.pre A7 AA AG AF AE AD AI AH AK AJ AC AB AM AL AQ AP AS AR AO AN
  rw [Cz.nat] at hr
  obtain ⟨r,h2⟩:=Option.isSome_iff_exists.1 (hp:(Cz.o A7 AA AG AF AE AD AI AH AK AJ AC AB AM AL AQ AP AS AR AO AN).isSome=true)
  have h3:Cz A7 AA AG AF AE AD AI AH AK AJ AC AB AM AL AQ AP AS AR AO AN=r:=by unfold Cz; rw [h2]; rfl
  have h4:Cz.K Al Al.pre Bw Bw.pre A7 AA AG AF AE AD AI AH AK AJ AC AB AM AL AQ AP AS AR AO AN some=some r:=h2
  rw [h4,Option.bind_some] at hr
  rw [h3]
  exact ⟨hr,by simp [okV,Nat.blt],clo_spec 8 _ (by kernel_rfl),Bg (by kernel_rfl)⟩
 ·cases h
section
variable {R:Type} (BG:TF5 (Bool)) (BF:TF5 Bool) (BE:Int→(TY5)) (BD:Int→Bool) (C8:TF10 (TY5)) (C7:TF10 Bool) (CP:TF5 (TY5)) (CN:TF5 Bool) (BX:Bool→ByteArray→(Bool×ByteArray)) (A7:Bool) (AA:ByteArray) (AG:Bool) (AF:ByteArray) (AE:Bool) (AD:ByteArray) (AI:Bool) (AH:ByteArray) (AK:Bool) (AJ:ByteArray) (AC:Bool) (AB:ByteArray) (AM:Bool) (AL:ByteArray) (AQ:Bool) (AP:ByteArray) (AS:Bool) (AR:ByteArray) (AO:Bool) (AN:ByteArray)
def Db.K (k:Bool×ByteArray×Bool×ByteArray×Bool×ByteArray×Bool×ByteArray×Bool×ByteArray×Int→Option R):Option R:=
 let t0:=BF A7 AA AG AF AE AD AI AH AK AJ
 bif t0 then
 let t1:=BG A7 AA AG AF AE AD AI AH AK AJ
 bif !t1 then k (false,{data:= #[]},false,{data:= #[]},false,{data:= #[]},false,{data:= #[]},false,{data:= #[]},1) else
 let t2:=BF AC AB AM AL AQ AP AS AR AO AN
 bif t2 then
 let t3:=BG AC AB AM AL AQ AP AS AR AO AN
 bif !t3 then k (false,{data:= #[]},false,{data:= #[]},false,{data:= #[]},false,{data:= #[]},false,{data:= #[]},1) else
 let t4:=BD 0
 bif t4 then
 let t5:=BE 0
 bif AC==t5.1&&AB.toList==t5.2.1.toList&&(AM==t5.2.2.1&&AL.toList==t5.2.2.2.1.toList&&(AQ==t5.2.2.2.2.1&&AP.toList==t5.2.2.2.2.2.1.toList&&(AS==t5.2.2.2.2.2.2.1&&AR.toList==t5.2.2.2.2.2.2.2.1.toList)))&&(AO==t5.2.2.2.2.2.2.2.2.1&&AN.toList==t5.2.2.2.2.2.2.2.2.2.toList) then k (false,{data:= #[]},false,{data:= #[]},false,{data:= #[]},false,{data:= #[]},false,{data:= #[]},10) else
 let t6:=BX AQ AP
 let t7:=BX AS AR
 let t8:=C7 AC AB AM AL AQ AP AS AR AO AN AC AB AM AL t6.1 t6.2 t7.1 t7.2 AO AN
 bif t8 then
 let t9:=C8 AC AB AM AL AQ AP AS AR AO AN AC AB AM AL t6.1 t6.2 t7.1 t7.2 AO AN
 let t10:=BX t9.2.2.1 t9.2.2.2.1
 let t11:=BX t9.2.2.2.2.2.2.1 t9.2.2.2.2.2.2.2.1
 let t12:=C7 t9.1 t9.2.1 t9.2.2.1 t9.2.2.2.1 t9.2.2.2.2.1 t9.2.2.2.2.2.1 t9.2.2.2.2.2.2.1 t9.2.2.2.2.2.2.2.1 t9.2.2.2.2.2.2.2.2.1 t9.2.2.2.2.2.2.2.2.2 t9.1 t9.2.1 t10.1 t10.2 t9.2.2.2.2.1 t9.2.2.2.2.2.1 t11.1 t11.2 t9.2.2.2.2.2.2.2.2.1 t9.2.2.2.2.2.2.2.2.2
 bif t12 then
 let t13:=C8 t9.1 t9.2.1 t9.2.2.1 t9.2.2.2.1 t9.2.2.2.2.1 t9.2.2.2.2.2.1 t9.2.2.2.2.2.2.1 t9.2.2.2.2.2.2.2.1 t9.2.2.2.2.2.2.2.2.1 t9.2.2.2.2.2.2.2.2.2 t9.1 t9.2.1 t10.1 t10.2 t9.2.2.2.2.1 t9.2.2.2.2.2.1 t11.1 t11.2 t9.2.2.2.2.2.2.2.2.1 t9.2.2.2.2.2.2.2.2.2
 let t14:=CN t13.2.2.2.2.2.2.2.2.1 t13.2.2.2.2.2.2.2.2.2 false {data:= #[]} false {data:= #[]} false {data:= #[]} t13.1 t13.2.1
 bif t14 then
 let t15:=C7 A7 AA AG AF AE AD AI AH AK AJ AC AB AM AL t6.1 t6.2 t7.1 t7.2 AO AN
 bif t15 then
 let t16:=CP t13.2.2.2.2.2.2.2.2.1 t13.2.2.2.2.2.2.2.2.2 false {data:= #[]} false {data:= #[]} false {data:= #[]} t13.1 t13.2.1
 let t17:=C7 t9.1 t9.2.1 t10.1 t10.2 t9.2.2.2.2.1 t9.2.2.2.2.2.1 t11.1 t11.2 t9.2.2.2.2.2.2.2.2.1 t9.2.2.2.2.2.2.2.2.2 t16.1 t16.2.1 t16.2.2.1 t16.2.2.2.1 t16.2.2.2.2.1 t16.2.2.2.2.2.1 t16.2.2.2.2.2.2.1 t16.2.2.2.2.2.2.2.1 t16.2.2.2.2.2.2.2.2.1 t16.2.2.2.2.2.2.2.2.2
 bif t17 then
 let t18:=C8 A7 AA AG AF AE AD AI AH AK AJ AC AB AM AL t6.1 t6.2 t7.1 t7.2 AO AN
 let t19:=C8 t9.1 t9.2.1 t10.1 t10.2 t9.2.2.2.2.1 t9.2.2.2.2.2.1 t11.1 t11.2 t9.2.2.2.2.2.2.2.2.1 t9.2.2.2.2.2.2.2.2.2 t16.1 t16.2.1 t16.2.2.1 t16.2.2.2.1 t16.2.2.2.2.1 t16.2.2.2.2.2.1 t16.2.2.2.2.2.2.1 t16.2.2.2.2.2.2.2.1 t16.2.2.2.2.2.2.2.2.1 t16.2.2.2.2.2.2.2.2.2
 let t20:=C7 t18.1 t18.2.1 t18.2.2.1 t18.2.2.2.1 t18.2.2.2.2.1 t18.2.2.2.2.2.1 t18.2.2.2.2.2.2.1 t18.2.2.2.2.2.2.2.1 t18.2.2.2.2.2.2.2.2.1 t18.2.2.2.2.2.2.2.2.2 t19.1 t19.2.1 t19.2.2.1 t19.2.2.2.1 t19.2.2.2.2.1 t19.2.2.2.2.2.1 t19.2.2.2.2.2.2.1 t19.2.2.2.2.2.2.2.1 t19.2.2.2.2.2.2.2.2.1 t19.2.2.2.2.2.2.2.2.2
 bif t20 then
 let t21:=C8 t18.1 t18.2.1 t18.2.2.1 t18.2.2.2.1 t18.2.2.2.2.1 t18.2.2.2.2.2.1 t18.2.2.2.2.2.2.1 t18.2.2.2.2.2.2.2.1 t18.2.2.2.2.2.2.2.2.1 t18.2.2.2.2.2.2.2.2.2 t19.1 t19.2.1 t19.2.2.1 t19.2.2.2.1 t19.2.2.2.2.1 t19.2.2.2.2.2.1 t19.2.2.2.2.2.2.1 t19.2.2.2.2.2.2.2.1 t19.2.2.2.2.2.2.2.2.1 t19.2.2.2.2.2.2.2.2.2
 k (t21.1,t21.2.1,t21.2.2.1,t21.2.2.2.1,t21.2.2.2.2.1,t21.2.2.2.2.2.1,t21.2.2.2.2.2.2.1,t21.2.2.2.2.2.2.2.1,t21.2.2.2.2.2.2.2.2.1,t21.2.2.2.2.2.2.2.2.2,0) else none else none else none else none else none else none else none else none else none
theorem Db.run:xfn Tryz.prog ⟨[(109,Al.sp BG BF),(114,Cd.sp BE BD),(161,Bw.sp C8 C7),(164,Az.sp CP CN),(193,EA.sp BX)],[(165,Tryz.f165)],[]⟩ [] 60 Tryz.f113 [.agg ⟨[.bool A7,.string AA,.bool AG,.string AF,.bool AE,.string AD,.bool AI,.string AH,.bool AK,.string AJ]⟩,.agg ⟨[.bool AC,.string AB,.bool AM,.string AL,.bool AQ,.string AP,.bool AS,.string AR,.bool AO,.string AN]⟩] []=Db.K BG BF BE BD C8 C7 CP CN BX A7 AA AG AF AE AD AI AH AK AJ AC AB AM AL AQ AP AS AR AO AN (fun r=>some (.tuple ⟨[.agg ⟨[.bool r.1,.string r.2.1,.bool r.2.2.1,.string r.2.2.2.1,.bool r.2.2.2.2.1,.string r.2.2.2.2.2.1,.bool r.2.2.2.2.2.2.1,.string r.2.2.2.2.2.2.2.1,.bool r.2.2.2.2.2.2.2.2.1,.string r.2.2.2.2.2.2.2.2.2.1]⟩,.int .i64 r.2.2.2.2.2.2.2.2.2.2]⟩,[])):=by kernel_rfl
def Db.o:Option (Bool×ByteArray×Bool×ByteArray×Bool×ByteArray×Bool×ByteArray×Bool×ByteArray×Int):=Db.K Al Al.pre Cd Cd.pre Bw Bw.pre Az Az.pre EA A7 AA AG AF AE AD AI AH AK AJ AC AB AM AL AQ AP AS AR AO AN some
def Db.pre:Bool:=(Db.o A7 AA AG AF AE AD AI AH AK AJ AC AB AM AL AQ AP AS AR AO AN).isSome
def Db:Bool×ByteArray×Bool×ByteArray×Bool×ByteArray×Bool×ByteArray×Bool×ByteArray×Int:=(Db.o A7 AA AG AF AE AD AI AH AK AJ AC AB AM AL AQ AP AS AR AO AN).getD default
theorem Db.nat (k:Bool×ByteArray×Bool×ByteArray×Bool×ByteArray×Bool×ByteArray×Bool×ByteArray×Int→Option R):Db.K BG BF BE BD C8 C7 CP CN BX A7 AA AG AF AE AD AI AH AK AJ AC AB AM AL AQ AP AS AR AO AN k=(Db.K BG BF BE BD C8 C7 CP CN BX A7 AA AG AF AE AD AI AH AK AJ AC AB AM AL AQ AP AS AR AO AN some).bind k:=by
 simp only [Db.K,bcond,Option.bind_some,Option.bind_none]
end
def Q.nul (y:Q):Bool:=y.c0==0&&y.c1==0&&y.c2==0&&y.c3==0
def qDiv (x y:Q):Q×Int:=bif x.ok&&y.ok then (bif y.nul then (Q.zero,10) else (qdiv x y,0)) else (Q.zero,1)
def C51 (r:Q×Int):Bool×ByteArray×Bool×ByteArray×Bool×ByteArray×Bool×ByteArray×Bool×ByteArray×Int:=((dI r.1.c0).1,(dI r.1.c0).2,(dI r.1.c1).1,(dI r.1.c1).2,(dI r.1.c2).1,(dI r.1.c2).2,(dI r.1.c3).1,(dI r.1.c3).2,(dI r.1.d).1,(dI r.1.d).2,r.2)
theorem LR (e:Int):C51 (Q.zero,e)=(false,(⟨#[]⟩:ByteArray),false,⟨#[]⟩,false,⟨#[]⟩,false,⟨#[]⟩,false,⟨#[]⟩,e):=by simp only [C51,Q.zero,Me]
theorem nul_d {y:Q} (h:y.ok=true) (hn:y.nul=true):y=qof 0:=by
 obtain ⟨h1,h2⟩:=Q.ok_d h
 simp only [Q.nul,zB,beq_iff_eq] at hn
 obtain ⟨⟨⟨e0,e1⟩,e2⟩,e3⟩:=hn
 obtain ⟨c0,c1,c2,c3,d⟩:=y
 simp only at e0 e1 e2 e3 h1
 subst e0 e1 e2 e3
 have:(Q.mk 0 0 0 0 d).g=(d.natAbs:Int):=by
  show gg 0 0 0 0 d=_
  unfold gg
  simp
 rw [this] at h2
 have:d=1:=by omega
 subst this; rfl
theorem cj1_c0 (y:Q):(cj1 y).c0=y.c0:=rfl
theorem cj1_c1 (y:Q):(cj1 y).c1= -y.c1:=rfl
theorem cj1_c2 (y:Q):(cj1 y).c2=y.c2:=rfl
theorem cj1_c3 (y:Q):(cj1 y).c3= -y.c3:=rfl
theorem cj2_c0 (y:Q):(cj2 y).c0=y.c0:=rfl
theorem cj2_c1 (y:Q):(cj2 y).c1=y.c1:=rfl
theorem cj2_c2 (y:Q):(cj2 y).c2= -y.c2:=rfl
theorem cj2_c3 (y:Q):(cj2 y).c3= -y.c3:=rfl
theorem cj1_d (y:Q):(cj1 y).d=y.d:=rfl
theorem cj2_d (y:Q):(cj2 y).d=y.d:=rfl
theorem Db.os {j k:Nat} {x y:Q} (hx:x.Bd j) (hy:y.Bd k) (hk:1≤k) (hj:j+7*k+35≤PRM):Db.o (dI x.c0).1 (dI x.c0).2 (dI x.c1).1 (dI x.c1).2 (dI x.c2).1 (dI x.c2).2 (dI x.c3).1 (dI x.c3).2 (dI x.d).1 (dI x.d).2 (dI y.c0).1 (dI y.c0).2 (dI y.c1).1 (dI y.c1).2 (dI y.c2).1 (dI y.c2).2 (dI y.c3).1 (dI y.c3).2 (dI y.d).1 (dI y.d).2=some (C51 (qDiv x y)):=by
 have hL:j≤LIM:=by unfold LIM; unfold PRM at hj; omega
 have hM:k≤LIM:=by unfold LIM; unfold PRM at hj; omega
 have v1:=Al.ps hx hL
 have v2:=Al.es hx hL
 have v3:=Al.ps hy hM
 have v4:=Al.es hy hM
 cases ox:x.ok with
 | false=>
  rw [ox] at v2
  simp only [Db.o,Db.K,v1,v2,qDiv,ox,Bool.not_false,cond_true,Bool.false_and,cond_false,LR]
 |true=>
 rw [ox] at v2
 cases oy:y.ok with
 | false=>
  rw [oy] at v4
  simp only [Db.o,Db.K,v1,v2,v3,v4,qDiv,ox,oy,zN,Bool.not_false,cond_true,Bool.and_false,cond_false,LR]
 |true=>
 rw [oy] at v4
 have o1:=Cd.ps (n:=0) (by decide) (by decide)
 have o2:=Cd.es (n:=0) (by decide) (by decide)
 have hnl:((y.c0==0)&&((y.c1==0)&&((y.c2==0)&&(y.c3==0)))&&(y.d==1))=y.nul:=by
  cases hn:y.nul with
  |true=>rw [nul_d oy hn]; rfl
  | false=>
   simp only [Q.nul] at hn
   revert hn
   cases y.c0==0<;>cases y.c1==0<;>cases y.c2==0<;>cases y.c3==0<;>simp
 have e0:∀(a:Int),((dI a).1==(dI 0).1&&(dI a).2.toList==(dI 0).2.toList)=(a==0):=fun a=>M5 a 0
 simp only [C5] at o2
 cases hn:y.nul with
 | true=>
  rw [hn] at hnl
  simp only [Db.o,Db.K,v1,v2,v3,v4,qDiv,ox,oy,o1,o2,M5,hnl,hn,zN,Bool.and_self,cond_true,cond_false,LR]
 |false=>
 rw [hn] at hnl
 have hnz:¬(y.c0=0∧y.c1=0∧y.c2=0∧y.c3=0):=by
  rintro ⟨h0,h1,h2,h3⟩
  simp [Q.nul,h0,h1,h2,h3] at hn
 have oa:(cj2 y).ok=true:=by rw [Mh,oy]
 have ba:=RK hy
 have ot:=Iy oy
 have bt:(qtwo y).Bd (2*k+5):=(G7 hy ba oy oa).mono (by omega)
 have ob:(cj1 (qtwo y)).ok=true:=by rw [Mi,ot]
 have bb:=RL bt
 have on:=Ou oy
 have bn:(qone y).Bd (4*k+15):=(G7 bt bb ot ob).mono (by omega)
 have oi:=Ov oy hnz
 have bi0:(Q.mk (qone y).d 0 0 0 (qone y).c0).Bd (4*k+15):=⟨bn.d,Bd.zero _,Bd.zero _,Bd.zero _,bn.c0⟩
 have bi:(qinv y).Bd (4*k+15):=MT bi0 (Iz oy hnz)
 have p1:=Bw.ps hy ba (by omega) (by omega) (Fp oy oa)
 have p1':=Bw.es hy ba (by omega) (by omega) (Fp oy oa)
 have p2:=Bw.ps bt bb (by omega) (by omega) (Fp ot ob)
 have p2':=Bw.es bt bb (by omega) (by omega) (Fp ot ob)
 have l1:=Az.ps bi0 (by unfold LIM; unfold PRM at hj; omega) (Iz oy hnz)
 have l1':=Az.es bi0 (by unfold LIM; unfold PRM at hj; omega) (Iz oy hnz)
 have p3:=Bw.ps hx ba (by omega) (by omega) (Fp ox oa)
 have p3':=Bw.es hx ba (by omega) (by omega) (Fp ox oa)
 have p4:=Bw.ps bb bi (by omega) (by omega) (Fp ob oi)
 have p4':=Bw.es bb bi (by omega) (by omega) (Fp ob oi)
 have b3:(qmul x (cj2 y)).Bd (j+k+5):=G7 hx ba ox oa
 have b4:(qmul (cj1 (qtwo y)) (qinv y)).Bd (6*k+25):=(G7 bb bi ob oi).mono (by omega)
 have o3:(qmul x (cj2 y)).ok=true:=Hz ox oa
 have o4:(qmul (cj1 (qtwo y)) (qinv y)).ok=true:=Hz ob oi
 have p5:=Bw.ps b3 b4 (by omega) (by omega) (Fp o3 o4)
 have p5':=Bw.es b3 b4 (by omega) (by omega) (Fp o3 o4)
 change _=C5 (qtwo y) at p1'
 change _=C5 (qone y) at p2'
 change _=C5 (qinv y) at l1'
 change _=C5 (qmul x (cj2 y)) at p3'
 change _=C5 (qmul (cj1 (qtwo y)) (qinv y)) at p4'
 change _=C5 (qdiv x y) at p5'
 have z1:(false:Bool)=(dI 0).1:=rfl
 have z2:(⟨#[]⟩:ByteArray)=(dI 0).2:=rfl
 simp only [C5,cj2_c0,cj2_c1,cj2_c2,cj2_c3,cj2_d] at p1' p1 p3 p3'
 simp only [C5,cj1_c0,cj1_c1,cj1_c2,cj1_c3,cj1_d] at p2 p2' p4 p4'
 simp only [C5] at l1 l1' p5 p5'
 simp only [←z1,←z2] at l1 l1'
 simp only [Db.o,Db.K,v1,v2,v3,v4,qDiv,ox,oy,o1,o2,M5,hnl,hn,zN,Bool.and_self,cond_false,cond_true,Gn,p1,p1',p2,p2',l1,l1',p3,p3',p4,p4',p5,p5',C51]
theorem Db.ps {j k:Nat} {x y:Q} (hx:x.Bd j) (hy:y.Bd k) (hk:1≤k) (hj:j+7*k+35≤PRM):Db.pre (dI x.c0).1 (dI x.c0).2 (dI x.c1).1 (dI x.c1).2 (dI x.c2).1 (dI x.c2).2 (dI x.c3).1 (dI x.c3).2 (dI x.d).1 (dI x.d).2 (dI y.c0).1 (dI y.c0).2 (dI y.c1).1 (dI y.c1).2 (dI y.c2).1 (dI y.c2).2 (dI y.c3).1 (dI y.c3).2 (dI y.d).1 (dI y.d).2=true:=Ew (Db.os hx hy hk hj)
theorem Db.es {j k:Nat} {x y:Q} (hx:x.Bd j) (hy:y.Bd k) (hk:1≤k) (hj:j+7*k+35≤PRM):Db (dI x.c0).1 (dI x.c0).2 (dI x.c1).1 (dI x.c1).2 (dI x.c2).1 (dI x.c2).2 (dI x.c3).1 (dI x.c3).2 (dI x.d).1 (dI x.d).2 (dI y.c0).1 (dI y.c0).2 (dI y.c1).1 (dI y.c1).2 (dI y.c2).1 (dI y.c2).2 (dI y.c3).1 (dI y.c3).2 (dI y.d).1 (dI y.d).2=C51 (qDiv x y):=FP (Db.os hx hy hk hj)
theorem Db.ok:SOK Tryz.prog 113 (Db.sp Db Db.pre):=by
 refine Dl (E:=⟨[(109,Al.sp Al Al.pre),(114,Cd.sp Cd Cd.pre),(161,Bw.sp Bw Bw.pre),(164,Az.sp Az Az.pre),(193,EA.sp EA)],[(165,Tryz.f165)],[]⟩) (L:=[]) ⟨(Aa Al.ok (Aa Cd.ok (Aa Bw.ok (Aa Az.ok (Aa EA.ok Ac))))),(Bu ⟨Tryz.func165,by decide,rfl⟩ Aq),Aj,Ap⟩ 60 Tryz.func113 (by decide) rfl Bf fun vs bl v bl' h=> ?_
 unfold Db.sp at h
 split at h
 ·rename_i A7 AA AG AF AE AD AI AH AK AJ AC AB AM AL AQ AP AS AR AO AN
  simp only [zS,zP] at h
  obtain ⟨hp,rfl,rfl⟩:=h
  have hr:=Db.run Al Al.pre Cd Cd.pre Bw Bw.pre Az Az.pre EA A7 AA AG AF AE AD AI AH AK AJ AC AB AM AL AQ AP AS AR AO AN
  rw [Db.nat] at hr
  obtain ⟨r,h2⟩:=Option.isSome_iff_exists.1 (hp:(Db.o A7 AA AG AF AE AD AI AH AK AJ AC AB AM AL AQ AP AS AR AO AN).isSome=true)
  have h3:Db A7 AA AG AF AE AD AI AH AK AJ AC AB AM AL AQ AP AS AR AO AN=r:=by unfold Db; rw [h2]; rfl
  have h4:Db.K Al Al.pre Cd Cd.pre Bw Bw.pre Az Az.pre EA A7 AA AG AF AE AD AI AH AK AJ AC AB AM AL AQ AP AS AR AO AN some=some r:=h2
  rw [h4,Option.bind_some] at hr
  rw [h3]
  exact ⟨hr,by simp [okV,Nat.blt],clo_spec 8 _ (by kernel_rfl),Bg (by kernel_rfl)⟩
 ·cases h
end Go.Proofs.YtpejalpgficopaaGreatDoor.G
end
section
namespace Go.Proofs.YtpejalpgficopaaGreatDoor.G
open Go Go.Proofs RX
structure DqF where
 fO:Int→(TY5)
 pO:Int→Bool
 fC:TF10 Int
 pC:TF10 Bool
structure Nc where
 (n0:Bool) (s0:ByteArray) (n1:Bool) (s1:ByteArray) (n2:Bool) (s2:ByteArray) (n3:Bool) (s3:ByteArray) (n4:Bool) (s4:ByteArray)
noncomputable abbrev DqF.env (F:DqF):Env:=⟨[(114,Cd.sp F.fO F.pO),(115,Cp.sp F.fC F.pC)],[],[]⟩
noncomputable abbrev dq.code:Code:=Ay Tryz.f63 0
noncomputable abbrev dq.ex (F:DqF):=exec (R:=X×List Value×List (Option Blk)) Tryz.prog F.env [] (hs Tryz.prog F.env 9).lf (hs Tryz.prog F.env 9).cf dq.code
noncomputable abbrev dq.st (n b:Int) (x y q:Nc):St:=⟨gbuild [(2,.pointer (some ⟨0,0,none⟩)),(4,.pointer (some ⟨32,0,none⟩)),(6,.pointer (some ⟨192,0,none⟩)),(8,.int .i64 n),(9,.int .i64 b)] 0 75,[(0,.cs [.bool x.n0,.string x.s0,.bool x.n1,.string x.s1,.bool x.n2,.string x.s2,.bool x.n3,.string x.s3,.bool x.n4,.string x.s4] 26),(16,.cs [.bool y.n0,.string y.s0,.bool y.n1,.string y.s1,.bool y.n2,.string y.s2,.bool y.n3,.string y.s3,.bool y.n4,.string y.s4] 26),(32,.cs [.int .i64 0,.int .i64 0] 39),(192,.cs [.bool q.n0,.string q.s0,.bool q.n1,.string q.s1,.bool q.n2,.string q.s2,.bool q.n3,.string q.s3,.bool q.n4,.string q.s4] 26)],368⟩
abbrev dq.pk:=pick 75 [2,4,6,8,9] [0,16,32,192]
abbrev dq.lk:=RX.lk [2,4,6,8,9] [0,16,32,192]
abbrev dqs (m:Int):Int:=i64.wrap (m*m)
def dqp (F:DqF) (m:Int) (q:Nc):Bool:=F.pC (F.fO m).1 (F.fO m).2.1 (F.fO m).2.2.1 (F.fO m).2.2.2.1 (F.fO m).2.2.2.2.1 (F.fO m).2.2.2.2.2.1 (F.fO m).2.2.2.2.2.2.1 (F.fO m).2.2.2.2.2.2.2.1 (F.fO m).2.2.2.2.2.2.2.2.1 (F.fO m).2.2.2.2.2.2.2.2.2 q.n0 q.s0 q.n1 q.s1 q.n2 q.s2 q.n3 q.s3 q.n4 q.s4
def dqc (F:DqF) (m:Int) (q:Nc):Int:=F.fC (F.fO m).1 (F.fO m).2.1 (F.fO m).2.2.1 (F.fO m).2.2.2.1 (F.fO m).2.2.2.2.1 (F.fO m).2.2.2.2.2.1 (F.fO m).2.2.2.2.2.2.1 (F.fO m).2.2.2.2.2.2.2.1 (F.fO m).2.2.2.2.2.2.2.2.1 (F.fO m).2.2.2.2.2.2.2.2.2 q.n0 q.s0 q.n1 q.s1 q.n2 q.s2 q.n3 q.s3 q.n4 q.s4
abbrev hf (b:Int):Int:=b.fdiv (2^min (Int.toNat 1) i64.bits)
theorem dq.rnd (F:DqF) (n b:Int) (x y q:Nc):dq.ex F (dq.st n b x y q) dq.pk=
 bif decide (b>0) then bif decide (i64.wrap (n+b)<2147483648) then bif F.pO (dqs (i64.wrap (n+b))) then bif dqp F (dqs (i64.wrap (n+b))) q then bif decide (dqc F (dqs (i64.wrap (n+b))) q≤0) then dq.lk .normal (dq.st (i64.wrap (n+b)) (hf b) x y q) else dq.lk .normal (dq.st n (hf b) x y q) else none else none else dq.lk .normal (dq.st n (hf b) x y q) else dq.lk (.exit 0) (dq.st n b x y q):=by kernel_rfl
def bq (k:Nat):Int:=((2^k:Nat):Int)/2
theorem KW (k:Nat):bq (k+1)=((2^k:Nat):Int):=by
 unfold bq
 rw [Nat.pow_succ]
 omega
theorem bq_half (k:Nat):hf (bq (k+1))=bq k:=by
 unfold hf
 rw [KW]
 show (((2^k:Nat):Int)).fdiv 2=bq k
 rw [Int.fdiv_eq_ediv_of_nonneg _ (by omega)]
 rfl
theorem bq_le {k:Nat} (h:k≤32):0≤bq k∧bq k≤2147483648:=by
 have:2^k≤2^32:=Nat.pow_le_pow_right (by omega) h
 unfold bq
 generalize 2^k=m at*
 omega
def dqb (T:Int→Bool):Nat→Int→Int
 |0,n=>n
 |k+1,n=>dqb T k (bif decide (n+bq (k+1)<2147483648) then bif T (n+bq (k+1)) then n+bq (k+1) else n else n)
def dqT (F:DqF) (q:Nc) (m:Int):Bool:=decide (dqc F (m*m) q≤0)
def DqOk (F:DqF) (q:Nc):Prop:=∀m:Int,0≤m→m<2147483648→F.pO (m*m)=true∧dqp F (m*m) q=true
noncomputable def dqOk (F:DqF) (q:Nc):Bool:= @decide (DqOk F q) (Classical.propDecidable _)
theorem NZ {F:DqF} {q:Nc} :dqOk F q=true↔DqOk F q:=by unfold dqOk; exact @decide_eq_true_iff _ (Classical.propDecidable _)
theorem Og {m:Int} (h:0≤m) (h':m<2147483648):i64.wrap (m*m)=m*m:=by
 have:m*m≤2147483647*2147483647:=Int.mul_le_mul (by omega) (by omega) h (by omega)
 have h0:0≤m*m:=Int.mul_nonneg h h
 exact w64 (by omega) (by omega)
theorem dq.lp (F:DqF) {N:Nat→Prop} (hE:EnvOk Tryz.prog F.env) (x y q:Nc) (h:DqOk F q):∀(k:Nat) (n:Int),k≤32→0≤n→n<2147483648→Lq Tryz.prog N dq.code (dq.st n (bq k) x y q) (.exit 0) (dq.st (dqb (dqT F q) k n) 0 x y q)
 |0,n,hk,h0,h1=> .end (f:=9) hE Bs (dq.rnd F n 0 x y q) (fun q=>by cases q) rfl
 | k + 1,n,hk,h0,h1=>by
  have hb:=bq_le (k:=k+1) hk
  have hp:0<bq (k+1):=by rw [KW]; have:=Nat.two_pow_pos k; omega
  have hw:i64.wrap (n+bq (k+1))=n+bq (k+1):=w64 (by omega) (by omega)
  have hh:hf (bq (k+1))=bq k:=bq_half k
  have hr:=dq.rnd F n (bq (k+1)) x y q
  rw [hw,hh,decide_eq_true (show bq (k+1)>0 from hp),cond_true] at hr
  unfold dqb
  by_cases hm:n+bq (k+1)<2147483648
  ·rw [decide_eq_true hm,cond_true,dqs,Og (by omega) hm,(h _ (by omega) hm).1,(h _ (by omega) hm).2,cond_true,cond_true] at hr
   rw [decide_eq_true hm,cond_true]
   unfold dqT
   cases hd:decide (dqc F ((n+bq (k+1))*(n+bq (k+1))) q≤0) with
   | true=>
    rw [hd,cond_true] at hr
    rw [cond_true]
    exact .to (f:=9) hE Bs hr rfl (dq.lp F hE x y q h k _ (by omega) (by omega) hm)
   | false=>
    rw [hd,cond_false] at hr
    rw [cond_false]
    exact .to (f:=9) hE Bs hr rfl (dq.lp F hE x y q h k _ (by omega) h0 h1)
  ·rw [decide_eq_false hm,cond_false] at hr
   rw [decide_eq_false hm,cond_false]
   exact .to (f:=9) hE Bs hr rfl (dq.lp F hE x y q h k _ (by omega) h0 h1)
noncomputable def dq.lt (F:DqF) (x y q:Nc):LT:= .got (dqOk F q) (.exit 0) (dq.st (dqb (dqT F q) 32 0) 0 x y q)
theorem dq.enter {N:Nat→Prop} {S S':St} {x':X} {n b:Int} {x y q:Nc} (h2:RX.nth S.tmps 2= .pointer (some ⟨0,0,none⟩)) (h4:RX.nth S.tmps 4= .pointer (some ⟨32,0,none⟩)) (h6:RX.nth S.tmps 6= .pointer (some ⟨192,0,none⟩)) (h8:RX.nth S.tmps 8= .int .i64 n) (h9:RX.nth S.tmps 9= .int .i64 b)
  (g0:RX.look S.heap 0=some (.cs [.bool x.n0,.string x.s0,.bool x.n1,.string x.s1,.bool x.n2,.string x.s2,.bool x.n3,.string x.s3,.bool x.n4,.string x.s4] 26)) (g16:RX.look S.heap 16=some (.cs [.bool y.n0,.string y.s0,.bool y.n1,.string y.s1,.bool y.n2,.string y.s2,.bool y.n3,.string y.s3,.bool y.n4,.string y.s4] 26)) (g32:RX.look S.heap 32=some (.cs [.int .i64 0,.int .i64 0] 39)) (g192:RX.look S.heap 192=some (.cs [.bool q.n0,.string q.s0,.bool q.n1,.string q.s1,.bool q.n2,.string q.s2,.bool q.n3,.string q.s3,.bool q.n4,.string q.s4] 26)) (hl:S.tmps.length=75) (hnx:S.nxt=368) (hk:Lq Tryz.prog N dq.code (dq.st n b x y q) x' S'):Lq Tryz.prog N dq.code S x' S':=by
 obtain ⟨T,H,n⟩:=S
 subst hnx
 exact .enter (fun h=>FW hl (.cons ⟨h2,bnth h h2⟩ (.cons ⟨h4,bnth h h4⟩ (.cons ⟨h6,bnth h h6⟩ (.cons ⟨h8,bnth h h8⟩ (.cons ⟨h9,bnth h h9⟩ .nil))))) (.cons ⟨g0,bname h g0,rfl⟩ (.cons ⟨g16,bname h g16,rfl⟩ (.cons ⟨g32,bname h g32,rfl⟩ (.cons ⟨g192,bname h g192,rfl⟩ .nil))))) hk
noncomputable def dq.t (F:DqF):LSpec:=fun S=>match RX.nth S.tmps 2,RX.nth S.tmps 4,RX.nth S.tmps 6,RX.nth S.tmps 8,RX.nth S.tmps 9,RX.look S.heap 0,RX.look S.heap 16,RX.look S.heap 32,RX.look S.heap 192 with
 | .pointer (some ⟨0,0,none⟩),.pointer (some ⟨32,0,none⟩),.pointer (some ⟨192,0,none⟩),.int .i64 n,.int .i64 b,some (.cs [.bool xn0,.string xs0,.bool xn1,.string xs1,.bool xn2,.string xs2,.bool xn3,.string xs3,.bool xn4,.string xs4] 26),some (.cs [.bool yn0,.string ys0,.bool yn1,.string ys1,.bool yn2,.string ys2,.bool yn3,.string ys3,.bool yn4,.string ys4] 26),some (.cs [.int .i64 0,.int .i64 0] 39),some (.cs [.bool qn0,.string qs0,.bool qn1,.string qs1,.bool qn2,.string qs2,.bool qn3,.string qs3,.bool qn4,.string qs4] 26)=>bif Nat.beq S.tmps.length 75&&Nat.beq S.nxt 368&&ieq n 0&&ieq b 2147483648 then some (dq.lt F ⟨xn0,xs0,xn1,xs1,xn2,xs2,xn3,xs3,xn4,xs4⟩ ⟨yn0,ys0,yn1,ys1,yn2,ys2,yn3,ys3,yn4,ys4⟩ ⟨qn0,qs0,qn1,qs1,qn2,qs2,qn3,qs3,qn4,qs4⟩) else none
 |_,_,_,_,_,_,_,_,_=>none
theorem dq.lok (F:DqF) {N:Nat→Prop} (hE:EnvOk Tryz.prog F.env):LOKn Tryz.prog N dq.code (dq.t F):=by
 refine FS fun S lt x' S' ht hat=> ?_
 unfold dq.t at ht
 split at ht
 ·rename_i n b xn0 xs0 xn1 xs1 xn2 xs2 xn3 xs3 xn4 xs4 yn0 ys0 yn1 ys1 yn2 ys2 yn3 ys3 yn4 ys4 qn0 qs0 qn1 qs1 qn2 qs2 qn3 qs3 qn4 qs4 h2 h4 h6 h8 h9 g0 g16 g32 g192
  cases hb:Nat.beq S.tmps.length 75&&Nat.beq S.nxt 368&&ieq n 0&&ieq b 2147483648 with
  |false=>rw [hb] at ht; cases ht
  | true=>
   rw [hb] at ht
   injection ht with ht
   subst ht
   rw [zB,zB,zB] at hb
   obtain ⟨⟨⟨hb,hnx⟩,e1⟩,e2⟩:=hb
   have e1:=Gl.1 e1
   have e2:=Gl.1 e2
   subst e1 e2
   have hb:=zE hb
   have hnx:=zE hnx
   unfold dq.lt LT.at at hat
   cases ho:dqOk F ⟨qn0,qs0,qn1,qs1,qn2,qs2,qn3,qs3,qn4,qs4⟩ with
   |false=>rw [ho] at hat; cases hat
   | true=>
    rw [ho] at hat
    injection hat with hat
    injection hat with hx hs
    subst hx hs
    exact dq.enter (x:=⟨xn0,xs0,xn1,xs1,xn2,xs2,xn3,xs3,xn4,xs4⟩) (y:=⟨yn0,ys0,yn1,ys1,yn2,ys2,yn3,ys3,yn4,ys4⟩) (q:=⟨qn0,qs0,qn1,qs1,qn2,qs2,qn3,qs3,qn4,qs4⟩) h2 h4 h6 h8 h9 g0 g16 g32 g192 hb hnx (dq.lp F hE _ _ _ (NZ.1 ho) 32 0 (by omega) (by omega) (by omega))
 ·cases ht
end Go.Proofs.YtpejalpgficopaaGreatDoor.G
end
