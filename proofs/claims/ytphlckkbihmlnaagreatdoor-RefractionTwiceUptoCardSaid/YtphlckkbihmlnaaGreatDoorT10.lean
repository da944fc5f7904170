/- A part of what the law's proof leans on. PACKED BY pack.py of this repo. -/
import Derived.Test.YtphlckkbihmlnaaGreatDoorT9
set_option linter.unusedVariables false
set_option linter.unusedSimpArgs false
set_option linter.defProp false
set_option linter.unusedSectionVars false
section
namespace Go.Proofs.YtphlckkbihmlnaaGreatDoor.G
set_option maxRecDepth 100000
open Go Go.Proofs Go.RowKit RX
def Dm.K {R:Type} (a0:Int) (a1:Int) (a2:Int) (k:(Int)→R):R:=
 bif a0==a1 then k (a0) else bif a1==0 then k (a0) else bif a0==0 then k (a1) else k (IntKind.i64.wrap (a0*a2))
theorem Dm.run (a0:Int) (a1:Int) (a2:Int):xfn Tryz.prog ⟨[],[],[]⟩ [] 60 Tryz.f107 [.int .i64 a0,.int .i64 a1,.int .i64 a2] []=Dm.K a0 a1 a2 (fun r=>some (.int .i64 r,[])):=by kernel_rfl
def Dm (a0:Int) (a1:Int) (a2:Int):Int:=Dm.K a0 a1 a2 id
theorem Dm.nat {R:Type} (a0:Int) (a1:Int) (a2:Int) (k:(Int)→R):Dm.K a0 a1 a2 k=k (Dm.K a0 a1 a2 id):=by
 simp only [Dm.K,acond k,id_eq]
theorem Dm.es {a b s:Int} (ha:a= -1∨a=0∨a=1) (hs:s= -1∨s=0∨s=1):Dm a b s=mix a b s:=by
 simp only [Dm,Dm.K,id_eq,mix]
 by_cases h1:a=b
 ·rw [if_pos (.inl h1),h1]; simp
 ·rw [Fu h1]
  by_cases h2:b=0
  ·rw [if_pos (.inr h2),h2]; rfl
  ·rw [Fu h2,if_neg (fun h=>h.elim h1 h2)]
   by_cases h3:a=0
   ·rw [if_pos h3,h3]; rfl
   ·rw [Fu h3,if_neg h3]
    rcases ha with rfl|rfl|rfl<;>rcases hs with rfl|rfl|rfl<;>rfl
theorem Dm.ok:SOK Tryz.prog 107 (Dm.sp Dm):=by
 refine Cq (E:=⟨[],[],[]⟩) (L:=[]) ⟨Ac,Ai,Ad,Ah⟩ 60 Tryz.func107 (by decide) rfl Bs fun vs bl v bl' h=> ?_
 unfold Dm.sp at h
 split at h
 ·rename_i a0 a1 a2
  simp only [Option.some.injEq,Prod.mk.injEq,true_and] at h
  obtain ⟨rfl,rfl⟩:=h
  refine ⟨?_,by simp [okV,Nat.blt],clo_spec 8 _ (by kernel_rfl),As (by kernel_rfl)⟩
  refine (Dm.run a0 a1 a2).trans ?_
  refine (Dm.nat a0 a1 a2 _).trans ?_
  kernel_rfl
 ·cases h
section
variable {R:Type} (CX:Int→(Bool×ByteArray)) (CV:Int→Bool) (CQ:Bool→ByteArray→Bool→ByteArray→(Bool×ByteArray)) (CP:Bool→ByteArray→Bool→ByteArray→Bool) (a0:Int) (A5:Bool) (A4:ByteArray) (AM:Bool) (AL:ByteArray)
def Bm.K (k:Bool×ByteArray→Option R):Option R:=
 let t0:=CV a0
 bif t0 then
 let t1:=CP A5 A4 AM AL
 bif t1 then
 let t2:=CX a0
 let t3:=CQ A5 A4 AM AL
 let t4:=CP t2.1 t2.2 t3.1 t3.2
 bif t4 then
 let t5:=CQ t2.1 t2.2 t3.1 t3.2
 k (t5.1,t5.2) else none else none else none
theorem Bm.run:xfn Tryz.prog ⟨[(99,Cu.sp CX CV),(102,Cb.sp CQ CP)],[],[]⟩ [] 60 Tryz.f109 [.int .i64 a0,.agg ⟨[.bool A5,.string A4]⟩,.agg ⟨[.bool AM,.string AL]⟩] []=Bm.K CX CV CQ CP a0 A5 A4 AM AL (fun r=>some (.agg ⟨[.bool r.1,.string r.2]⟩,[])):=by kernel_rfl
def Bm.o:Option (Bool×ByteArray):=Bm.K Cu Cu.pre Cb Cb.pre a0 A5 A4 AM AL some
def Bm.pre:Bool:=(Bm.o a0 A5 A4 AM AL).isSome
def Bm:Bool×ByteArray:=(Bm.o a0 A5 A4 AM AL).getD default
theorem Bm.nat (k:Bool×ByteArray→Option R):Bm.K CX CV CQ CP a0 A5 A4 AM AL k=(Bm.K CX CV CQ CP a0 A5 A4 AM AL some).bind k:=by
 simp only [Bm.K,bcond,Option.bind_some,Option.bind_none]
theorem Bm.os {j k:Nat} {q a b:Int} (hq:Few6 q) (ha:Bd j a) (hb:Bd k b) (hj:j≤PRM) (hk:k≤PRM):Bm.o q (dI a).1 (dI a).2 (dI b).1 (dI b).2=some (dI (q*(a*b))):=by
 have h1:Cu.pre q=true:=by rcases hq with rfl|rfl|rfl|rfl<;>rfl
 unfold PRM at hj hk
 have h2:=Jc ha hb (by unfold LIM; omega) (by unfold LIM; omega)
 have h3:=Jc (HY hq) (ha.mul hb) (by unfold LIM; omega) (by unfold LIM; omega)
 simp only [Bm.o,Bm.K,h1,h2,Oh,GV,h3,cond_true]
theorem Bm.ps {j k:Nat} {q a b:Int} (hq:Few6 q) (ha:Bd j a) (hb:Bd k b) (hj:j≤PRM) (hk:k≤PRM):Bm.pre q (dI a).1 (dI a).2 (dI b).1 (dI b).2=true:=Ey (Bm.os hq ha hb hj hk)
theorem Bm.es {j k:Nat} {q a b:Int} (hq:Few6 q) (ha:Bd j a) (hb:Bd k b) (hj:j≤PRM) (hk:k≤PRM):Bm q (dI a).1 (dI a).2 (dI b).1 (dI b).2=dI (q*(a*b)):=Fq (Bm.os hq ha hb hj hk)
end
theorem Bm.ok:SOK Tryz.prog 109 (Bm.sp Bm Bm.pre):=by
 refine Cq (E:=⟨[(99,Cu.sp Cu Cu.pre),(102,Cb.sp Cb Cb.pre)],[],[]⟩) (L:=[]) ⟨(Aa Cu.ok (Aa Cb.ok Ac)),Ai,Ad,Ah⟩ 60 Tryz.func109 (by decide) rfl Bs fun vs bl v bl' h=> ?_
 unfold Bm.sp at h
 split at h
 ·rename_i a0 A5 A4 AM AL
  simp only [Option.some.injEq,Prod.mk.injEq] at h
  obtain ⟨hp,rfl,rfl⟩:=h
  have hr:=Bm.run Cu Cu.pre Cb Cb.pre a0 A5 A4 AM AL
  rw [Bm.nat] at hr
  obtain ⟨r,h2⟩:=Option.isSome_iff_exists.1 (hp:(Bm.o a0 A5 A4 AM AL).isSome=true)
  have h3:Bm a0 A5 A4 AM AL=r:=by unfold Bm; rw [h2]; rfl
  have h4:Bm.K Cu Cu.pre Cb Cb.pre a0 A5 A4 AM AL some=some r:=h2
  rw [h4,Option.bind_some] at hr
  rw [h3]
  exact ⟨hr,by simp [okV,Nat.blt],clo_spec 8 _ (by kernel_rfl),As (by kernel_rfl)⟩
 ·cases h
section
variable {R:Type} (D1:Bool→ByteArray→(Int)) (CQ:Bool→ByteArray→Bool→ByteArray→(Bool×ByteArray)) (CP:Bool→ByteArray→Bool→ByteArray→Bool) (DS:Int→Int→Int→(Int)) (DQ:Int→Bool→ByteArray→Bool→ByteArray→(Bool×ByteArray)) (DP:Int→Bool→ByteArray→Bool→ByteArray→Bool) (GC:Bool→ByteArray→Bool→ByteArray→(Int)) (GA:Bool→ByteArray→Bool→ByteArray→Bool) (A2:Bool) (A3:ByteArray) (A5:Bool) (A4:ByteArray)
def Cj.K (k:(Int)→Option R):Option R:=
 let t0:=CP A2 A3 A2 A3
 bif t0 then
 let t1:=DP 2 A5 A4 A5 A4
 bif t1 then
 let t2:=CQ A2 A3 A2 A3
 let t3:=DQ 2 A5 A4 A5 A4
 let t4:=GA t2.1 t2.2 t3.1 t3.2
 bif t4 then
 let t5:=D1 A2 A3
 let t6:=D1 A5 A4
 let t7:=GC t2.1 t2.2 t3.1 t3.2
 let t8:=DS t5 t6 t7
 k (t8) else none else none else none
theorem Cj.run:xfn Tryz.prog ⟨[(97,Eh.sp D1),(102,Cb.sp CQ CP),(107,Dm.sp DS),(109,Bm.sp DQ DP),(129,Ff.sp GC GA)],[],[]⟩ [] 60 Tryz.f106 [.agg ⟨[.bool A2,.string A3]⟩,.agg ⟨[.bool A5,.string A4]⟩] []=Cj.K D1 CQ CP DS DQ DP GC GA A2 A3 A5 A4 (fun r=>some (.int .i64 r,[])):=by kernel_rfl
def Cj.o:Option (Int):=Cj.K Eh Cb Cb.pre Dm Bm Bm.pre Ff Ff.pre A2 A3 A5 A4 some
def Cj.pre:Bool:=(Cj.o A2 A3 A5 A4).isSome
def Cj:Int:=(Cj.o A2 A3 A5 A4).getD default
theorem Cj.nat (k:(Int)→Option R):Cj.K D1 CQ CP DS DQ DP GC GA A2 A3 A5 A4 k=(Cj.K D1 CQ CP DS DQ DP GC GA A2 A3 A5 A4 some).bind k:=by
 simp only [Cj.K,bcond,Option.bind_some,Option.bind_none]
theorem Cj.os {j k:Nat} {a b:Int} (ha:Bd j a) (hb:Bd k b) (hj:j≤PRM) (hk:k≤PRM):Cj.o (dI a).1 (dI a).2 (dI b).1 (dI b).2=some (sg2 a b):=by
 have f2:Few6 2:= .inr (.inl rfl)
 have p1:=Bm.ps f2 hb hb hk hk
 have p2:=Bm.es f2 hb hb hk hk
 unfold PRM at hj hk
 have h2:=Jc ha ha (by unfold LIM; omega) (by unfold LIM; omega)
 have h3:=cmp_pre (ha.mul ha) ((HY f2).mul (hb.mul hb)) (by unfold LIM; omega) (by unfold LIM; omega)
 simp only [Cj.o,Cj.K,h2,p1,p2,GV,h3,Hb,N3,cond_true,Dm.es (I1 _) (I1 _)]
 rfl
theorem Cj.ps {j k:Nat} {a b:Int} (ha:Bd j a) (hb:Bd k b) (hj:j≤PRM) (hk:k≤PRM):Cj.pre (dI a).1 (dI a).2 (dI b).1 (dI b).2=true:=Ey (Cj.os ha hb hj hk)
theorem Cj.es {j k:Nat} {a b:Int} (ha:Bd j a) (hb:Bd k b) (hj:j≤PRM) (hk:k≤PRM):Cj (dI a).1 (dI a).2 (dI b).1 (dI b).2=sg2 a b:=Fq (Cj.os ha hb hj hk)
end
theorem Cj.ok:SOK Tryz.prog 106 (Cj.sp Cj Cj.pre):=by
 refine Cq (E:=⟨[(97,Eh.sp Eh),(102,Cb.sp Cb Cb.pre),(107,Dm.sp Dm),(109,Bm.sp Bm Bm.pre),(129,Ff.sp Ff Ff.pre)],[],[]⟩) (L:=[]) ⟨(Aa Eh.ok (Aa Cb.ok (Aa Dm.ok (Aa Bm.ok (Aa Ff.ok Ac))))),Ai,Ad,Ah⟩ 60 Tryz.func106 (by decide) rfl Bs fun vs bl v bl' h=> ?_
 unfold Cj.sp at h
 split at h
 ·rename_i A2 A3 A5 A4
  simp only [Option.some.injEq,Prod.mk.injEq] at h
  obtain ⟨hp,rfl,rfl⟩:=h
  have hr:=Cj.run Eh Cb Cb.pre Dm Bm Bm.pre Ff Ff.pre A2 A3 A5 A4
  rw [Cj.nat] at hr
  obtain ⟨r,h2⟩:=Option.isSome_iff_exists.1 (hp:(Cj.o A2 A3 A5 A4).isSome=true)
  have h3:Cj A2 A3 A5 A4=r:=by unfold Cj; rw [h2]; rfl
  have h4:Cj.K Eh Cb Cb.pre Dm Bm Bm.pre Ff Ff.pre A2 A3 A5 A4 some=some r:=h2
  rw [h4,Option.bind_some] at hr
  rw [h3]
  exact ⟨hr,by simp [okV,Nat.blt],clo_spec 8 _ (by kernel_rfl),As (by kernel_rfl)⟩
 ·cases h
section
variable {R:Type} (C0:TF5 (Bool)) (BZ:TF5 Bool) (DU:Bool→ByteArray→Bool→ByteArray→(Bool×ByteArray)) (DT:Bool→ByteArray→Bool→ByteArray→Bool) (FE:Bool→ByteArray→Bool→ByteArray→(Int)) (FD:Bool→ByteArray→Bool→ByteArray→Bool) (DS:Int→Int→Int→(Int)) (G4:Bool→ByteArray→Bool→ByteArray→(Bool×ByteArray)) (G3:Bool→ByteArray→Bool→ByteArray→Bool) (DQ:Int→Bool→ByteArray→Bool→ByteArray→(Bool×ByteArray)) (DP:Int→Bool→ByteArray→Bool→ByteArray→Bool) (A2:Bool) (A3:ByteArray) (A8:Bool) (A7:ByteArray) (A6:Bool) (A9:ByteArray) (AB:Bool) (AA:ByteArray) (AD:Bool) (AC:ByteArray)
def Cf.K (k:(Int)→Option R):Option R:=
 let t0:=BZ A2 A3 A8 A7 A6 A9 AB AA AD AC
 bif t0 then
 let t1:=C0 A2 A3 A8 A7 A6 A9 AB AA AD AC
 bif !t1 then k (0) else
 let t2:=FD A2 A3 A8 A7
 bif t2 then
 let t3:=FD A6 A9 AB AA
 bif t3 then
 let t4:=FE A2 A3 A8 A7
 let t5:=FE A6 A9 AB AA
 bif t4==t5 then
 let t6:=DS t4 t5 0
 k (t6) else bif t5==0 then
 let t7:=DS t4 t5 0
 k (t7) else bif t4==0 then
 let t8:=DS t4 t5 0
 k (t8) else
 let t9:=DP 1 A2 A3 A2 A3
 bif t9 then
 let t10:=DP 2 A8 A7 A8 A7
 bif t10 then
 let t11:=DQ 1 A2 A3 A2 A3
 let t12:=DQ 2 A8 A7 A8 A7
 let t13:=DT t11.1 t11.2 t12.1 t12.2
 bif t13 then
 let t14:=DP 3 A6 A9 A6 A9
 bif t14 then
 let t15:=DP 6 AB AA AB AA
 bif t15 then
 let t16:=DQ 3 A6 A9 A6 A9
 let t17:=DQ 6 AB AA AB AA
 let t18:=DT t16.1 t16.2 t17.1 t17.2
 bif t18 then
 let t19:=DU t11.1 t11.2 t12.1 t12.2
 let t20:=DU t16.1 t16.2 t17.1 t17.2
 let t21:=G3 t19.1 t19.2 t20.1 t20.2
 bif t21 then
 let t22:=DP 2 A2 A3 A8 A7
 bif t22 then
 let t23:=DP 6 A6 A9 AB AA
 bif t23 then
 let t24:=DQ 2 A2 A3 A8 A7
 let t25:=DQ 6 A6 A9 AB AA
 let t26:=G3 t24.1 t24.2 t25.1 t25.2
 bif t26 then
 let t27:=G4 t19.1 t19.2 t20.1 t20.2
 let t28:=G4 t24.1 t24.2 t25.1 t25.2
 let t29:=FD t27.1 t27.2 t28.1 t28.2
 bif t29 then
 let t30:=FE t27.1 t27.2 t28.1 t28.2
 let t31:=DS t4 t5 t30
 k (t31) else none else none else none else none else none else none else none else none else none else none else none else none else none else none
theorem Cf.run:xfn Tryz.prog ⟨[(68,Ae.sp C0 BZ),(101,Dt.sp DU DT),(106,Cj.sp FE FD),(107,Dm.sp DS),(108,Fd.sp G4 G3),(109,Bm.sp DQ DP)],[],[]⟩ [] 60 Tryz.f75 [.agg ⟨[.bool A2,.string A3,.bool A8,.string A7,.bool A6,.string A9,.bool AB,.string AA,.bool AD,.string AC]⟩] []=Cf.K C0 BZ DU DT FE FD DS G4 G3 DQ DP A2 A3 A8 A7 A6 A9 AB AA AD AC (fun r=>some (.int .i64 r,[])):=by kernel_rfl
def Cf.o:Option (Int):=Cf.K Ae Ae.pre Dt Dt.pre Cj Cj.pre Dm Fd Fd.pre Bm Bm.pre A2 A3 A8 A7 A6 A9 AB AA AD AC some
def Cf.pre:Bool:=(Cf.o A2 A3 A8 A7 A6 A9 AB AA AD AC).isSome
def Cf:Int:=(Cf.o A2 A3 A8 A7 A6 A9 AB AA AD AC).getD default
theorem Cf.nat (k:(Int)→Option R):Cf.K C0 BZ DU DT FE FD DS G4 G3 DQ DP A2 A3 A8 A7 A6 A9 AB AA AD AC k=(Cf.K C0 BZ DU DT FE FD DS G4 G3 DQ DP A2 A3 A8 A7 A6 A9 AB AA AD AC some).bind k:=by
 simp only [Cf.K,bcond,Option.bind_some,Option.bind_none]
theorem Cf.os {k:Nat} {x:Q} (h:x.Bd k) (hk:2*k+3≤PRM):
  Cf.o (dI x.c0).1 (dI x.c0).2 (dI x.c1).1 (dI x.c1).2 (dI x.c2).1 (dI x.c2).2 (dI x.c3).1 (dI x.c3).2 (dI x.d).1 (dI x.d).2=some (bif x.ok then x.sg else 0):=by
 have hk':k≤PRM:=by omega
 have f1:Few6 1:= .inl rfl
 have f2:Few6 2:= .inr (.inl rfl)
 have f3:Few6 3:= .inr (.inr (.inl rfl))
 have f6:Few6 6:= .inr (.inr (.inr rfl))
 have hL:k≤LIM:=by unfold LIM; unfold PRM at hk'; omega
 have v1:=Ae.ps h hL
 have v2:=Ae.es h hL
 have s1:=Cj.ps h.c0 h.c1 hk' hk'
 have s2:=Cj.es h.c0 h.c1 hk' hk'
 have s3:=Cj.ps h.c2 h.c3 hk' hk'
 have s4:=Cj.es h.c2 h.c3 hk' hk'
 have t1:=Bm.ps f1 h.c0 h.c0 hk' hk'
 have t1':=Bm.es f1 h.c0 h.c0 hk' hk'
 have t2:=Bm.ps f2 h.c1 h.c1 hk' hk'
 have t2':=Bm.es f2 h.c1 h.c1 hk' hk'
 have t3:=Bm.ps f3 h.c2 h.c2 hk' hk'
 have t3':=Bm.es f3 h.c2 h.c2 hk' hk'
 have t4:=Bm.ps f6 h.c3 h.c3 hk' hk'
 have t4':=Bm.es f6 h.c3 h.c3 hk' hk'
 have t5:=Bm.ps f2 h.c0 h.c1 hk' hk'
 have t5':=Bm.es f2 h.c0 h.c1 hk' hk'
 have t6:=Bm.ps f6 h.c2 h.c3 hk' hk'
 have t6':=Bm.es f6 h.c2 h.c3 hk' hk'
 have b1:Bd (2*k+1) (1*(x.c0*x.c0)):=((HY f1).mul (h.c0.mul h.c0)).mono (by omega)
 have b2:Bd (2*k+1) (2*(x.c1*x.c1)):=((HY f2).mul (h.c1.mul h.c1)).mono (by omega)
 have b3:Bd (2*k+1) (3*(x.c2*x.c2)):=((HY f3).mul (h.c2.mul h.c2)).mono (by omega)
 have b4:Bd (2*k+1) (6*(x.c3*x.c3)):=((HY f6).mul (h.c3.mul h.c3)).mono (by omega)
 have b5:Bd (2*k+1) (2*(x.c0*x.c1)):=((HY f2).mul (h.c0.mul h.c1)).mono (by omega)
 have b6:Bd (2*k+1) (6*(x.c2*x.c3)):=((HY f6).mul (h.c2.mul h.c3)).mono (by omega)
 unfold PRM at hk
 have a1:=O7 b1 b2 (by unfold LIM; omega) (by unfold LIM; omega)
 have a2:=O7 b3 b4 (by unfold LIM; omega) (by unfold LIM; omega)
 have a3:=Q3 (b1.add b2) (b3.add b4) (by unfold LIM; omega) (by unfold LIM; omega)
 have a4:=Q3 b5 b6 (by unfold LIM; omega) (by unfold LIM; omega)
 have d1:Bd (2*k+3) (1*(x.c0*x.c0)+2*(x.c1*x.c1)-(3*(x.c2*x.c2)+6*(x.c3*x.c3))):=(b1.add b2).add (b3.add b4).neg
 have d2:Bd (2*k+3) (2*(x.c0*x.c1)-6*(x.c2*x.c3)):=(b5.add b6.neg).mono (by omega)
 have s5:=Cj.ps d1 d2 (by unfold PRM; omega) (by unfold PRM; omega)
 have s6:=Cj.es d1 d2 (by unfold PRM; omega) (by unfold PRM; omega)
 simp only [Cf.o,Cf.K,v1,v2,s1,s2,s3,s4,t1,t2,t3,t4,t5,t6,t1',t2',t3',t4',t5',t6',a1,a2,a3,a4,IW,My,s5,s6,cond_true]
 have m0:Dm (sg2 x.c0 x.c1) (sg2 x.c2 x.c3) 0=mix (sg2 x.c0 x.c1) (sg2 x.c2 x.c3) 0:=Dm.es (JW _ _) (.inr (.inl rfl))
 have m1:∀s,(s= -1∨s=0∨s=1)→Dm (sg2 x.c0 x.c1) (sg2 x.c2 x.c3) s=mix (sg2 x.c0 x.c1) (sg2 x.c2 x.c3) s:=fun s hs=>Dm.es (JW _ _) hs
 cases hv:x.ok with
 |false=>rfl
 | true=>
  simp only [Bool.not_true,cond_false,cond_true,m0,m1 _ (JW _ _)]
  show _=some (sgz x.c0 x.c1 x.c2 x.c3)
  unfold sgz
  by_cases e1:sg2 x.c0 x.c1=sg2 x.c2 x.c3
  ·rw [if_pos (.inl e1),e1]; simp
  ·rw [Fu e1]
   by_cases e2:sg2 x.c2 x.c3=0
   ·rw [if_pos (.inr (.inl e2)),e2]; rfl
   ·rw [Fu e2]
    by_cases e3:sg2 x.c0 x.c1=0
    ·rw [if_pos (.inr (.inr e3)),e3]; rfl
    ·rw [Fu e3,if_neg (fun h=>h.elim e1 (fun h=>h.elim e2 e3))]; rfl
theorem Cf.ps {k:Nat} {x:Q} (h:x.Bd k) (hk:2*k+3≤PRM):Cf.pre (dI x.c0).1 (dI x.c0).2 (dI x.c1).1 (dI x.c1).2 (dI x.c2).1 (dI x.c2).2 (dI x.c3).1 (dI x.c3).2 (dI x.d).1 (dI x.d).2=true:=Ey (Cf.os h hk)
theorem Cf.es {k:Nat} {x:Q} (h:x.Bd k) (hk:2*k+3≤PRM):Cf (dI x.c0).1 (dI x.c0).2 (dI x.c1).1 (dI x.c1).2 (dI x.c2).1 (dI x.c2).2 (dI x.c3).1 (dI x.c3).2 (dI x.d).1 (dI x.d).2=bif x.ok then x.sg else 0:=Fq (Cf.os h hk)
end
theorem Cf.ok:SOK Tryz.prog 75 (Cf.sp Cf Cf.pre):=by
 refine Cq (E:=⟨[(68,Ae.sp Ae Ae.pre),(101,Dt.sp Dt Dt.pre),(106,Cj.sp Cj Cj.pre),(107,Dm.sp Dm),(108,Fd.sp Fd Fd.pre),(109,Bm.sp Bm Bm.pre)],[],[]⟩) (L:=[]) ⟨(Aa Ae.ok (Aa Dt.ok (Aa Cj.ok (Aa Dm.ok (Aa Fd.ok (Aa Bm.ok Ac)))))),Ai,Ad,Ah⟩ 60 Tryz.func75 (by decide) rfl Bs fun vs bl v bl' h=> ?_
 unfold Cf.sp at h
 split at h
 ·rename_i A2 A3 A8 A7 A6 A9 AB AA AD AC
  simp only [Option.some.injEq,Prod.mk.injEq] at h
  obtain ⟨hp,rfl,rfl⟩:=h
  have hr:=Cf.run Ae Ae.pre Dt Dt.pre Cj Cj.pre Dm Fd Fd.pre Bm Bm.pre A2 A3 A8 A7 A6 A9 AB AA AD AC
  rw [Cf.nat] at hr
  obtain ⟨r,h2⟩:=Option.isSome_iff_exists.1 (hp:(Cf.o A2 A3 A8 A7 A6 A9 AB AA AD AC).isSome=true)
  have h3:Cf A2 A3 A8 A7 A6 A9 AB AA AD AC=r:=by unfold Cf; rw [h2]; rfl
  have h4:Cf.K Ae Ae.pre Dt Dt.pre Cj Cj.pre Dm Fd Fd.pre Bm Bm.pre A2 A3 A8 A7 A6 A9 AB AA AD AC some=some r:=h2
  rw [h4,Option.bind_some] at hr
  rw [h3]
  exact ⟨hr,by simp [okV,Nat.blt],clo_spec 8 _ (by kernel_rfl),As (by kernel_rfl)⟩
 ·cases h
section
variable {R:Type} (C0:TF5 (Bool)) (BZ:TF5 Bool) (DU:Bool→ByteArray→Bool→ByteArray→(Bool×ByteArray)) (DT:Bool→ByteArray→Bool→ByteArray→Bool) (CQ:Bool→ByteArray→Bool→ByteArray→(Bool×ByteArray)) (CP:Bool→ByteArray→Bool→ByteArray→Bool) (E6:TF5 (TY5)) (E3:TF5 Bool) (A2:Bool) (A3:ByteArray) (A8:Bool) (A7:ByteArray) (A6:Bool) (A9:ByteArray) (AB:Bool) (AA:ByteArray) (AD:Bool) (AC:ByteArray) (A5:Bool) (A4:ByteArray) (AF:Bool) (AE:ByteArray) (AH:Bool) (AG:ByteArray) (AO:Bool) (AN:ByteArray) (AK:Bool) (AJ:ByteArray)
def Cl.K (k:TY5→Option R):Option R:=
 let t0:=BZ A2 A3 A8 A7 A6 A9 AB AA AD AC
 bif t0 then
 let t1:=C0 A2 A3 A8 A7 A6 A9 AB AA AD AC
 bif !t1 then k (false,{data:= #[]},false,{data:= #[]},false,{data:= #[]},false,{data:= #[]},false,{data:= #[]}) else
 let t2:=BZ A5 A4 AF AE AH AG AO AN AK AJ
 bif t2 then
 let t3:=C0 A5 A4 AF AE AH AG AO AN AK AJ
 bif !t3 then k (false,{data:= #[]},false,{data:= #[]},false,{data:= #[]},false,{data:= #[]},false,{data:= #[]}) else
 let t4:=CP A2 A3 AK AJ
 bif t4 then
 let t5:=CP A5 A4 AD AC
 bif t5 then
 let t6:=CQ A2 A3 AK AJ
 let t7:=CQ A5 A4 AD AC
 let t8:=DT t6.1 t6.2 t7.1 t7.2
 bif t8 then
 let t9:=CP A8 A7 AK AJ
 bif t9 then
 let t10:=CP AF AE AD AC
 bif t10 then
 let t11:=CQ A8 A7 AK AJ
 let t12:=CQ AF AE AD AC
 let t13:=DT t11.1 t11.2 t12.1 t12.2
 bif t13 then
 let t14:=CP A6 A9 AK AJ
 bif t14 then
 let t15:=CP AH AG AD AC
 bif t15 then
 let t16:=CQ A6 A9 AK AJ
 let t17:=CQ AH AG AD AC
 let t18:=DT t16.1 t16.2 t17.1 t17.2
 bif t18 then
 let t19:=CP AB AA AK AJ
 bif t19 then
 let t20:=CP AO AN AD AC
 bif t20 then
 let t21:=CQ AB AA AK AJ
 let t22:=CQ AO AN AD AC
 let t23:=DT t21.1 t21.2 t22.1 t22.2
 bif t23 then
 let t24:=CP AD AC AK AJ
 bif t24 then
 let t25:=DU t6.1 t6.2 t7.1 t7.2
 let t26:=DU t11.1 t11.2 t12.1 t12.2
 let t27:=DU t16.1 t16.2 t17.1 t17.2
 let t28:=DU t21.1 t21.2 t22.1 t22.2
 let t29:=CQ AD AC AK AJ
 let t30:=E3 t25.1 t25.2 t26.1 t26.2 t27.1 t27.2 t28.1 t28.2 t29.1 t29.2
 bif t30 then
 let t31:=E6 t25.1 t25.2 t26.1 t26.2 t27.1 t27.2 t28.1 t28.2 t29.1 t29.2
 k (t31.1,t31.2.1,t31.2.2.1,t31.2.2.2.1,t31.2.2.2.2.1,t31.2.2.2.2.2.1,t31.2.2.2.2.2.2.1,t31.2.2.2.2.2.2.2.1,t31.2.2.2.2.2.2.2.2.1,t31.2.2.2.2.2.2.2.2.2) else none else none else none else none else none else none else none else none else none else none else none else none else none else none else none else none
theorem Cl.run:xfn Tryz.prog ⟨[(68,Ae.sp C0 BZ),(101,Dt.sp DU DT),(102,Cb.sp CQ CP),(103,Bc.sp E6 E3)],[],[]⟩ [] 60 Tryz.f71 [.agg ⟨[.bool A2,.string A3,.bool A8,.string A7,.bool A6,.string A9,.bool AB,.string AA,.bool AD,.string AC]⟩,.agg ⟨[.bool A5,.string A4,.bool AF,.string AE,.bool AH,.string AG,.bool AO,.string AN,.bool AK,.string AJ]⟩] []=Cl.K C0 BZ DU DT CQ CP E6 E3 A2 A3 A8 A7 A6 A9 AB AA AD AC A5 A4 AF AE AH AG AO AN AK AJ (fun r=>some (.agg ⟨[.bool r.1,.string r.2.1,.bool r.2.2.1,.string r.2.2.2.1,.bool r.2.2.2.2.1,.string r.2.2.2.2.2.1,.bool r.2.2.2.2.2.2.1,.string r.2.2.2.2.2.2.2.1,.bool r.2.2.2.2.2.2.2.2.1,.string r.2.2.2.2.2.2.2.2.2]⟩,[])):=by kernel_rfl
def Cl.o:Option (TY5):=Cl.K Ae Ae.pre Dt Dt.pre Cb Cb.pre Bc Bc.pre A2 A3 A8 A7 A6 A9 AB AA AD AC A5 A4 AF AE AH AG AO AN AK AJ some
def Cl.pre:Bool:=(Cl.o A2 A3 A8 A7 A6 A9 AB AA AD AC A5 A4 AF AE AH AG AO AN AK AJ).isSome
def Cl:TY5:=(Cl.o A2 A3 A8 A7 A6 A9 AB AA AD AC A5 A4 AF AE AH AG AO AN AK AJ).getD default
theorem Cl.nat (k:TY5→Option R):Cl.K C0 BZ DU DT CQ CP E6 E3 A2 A3 A8 A7 A6 A9 AB AA AD AC A5 A4 AF AE AH AG AO AN AK AJ k=(Cl.K C0 BZ DU DT CQ CP E6 E3 A2 A3 A8 A7 A6 A9 AB AA AD AC A5 A4 AF AE AH AG AO AN AK AJ some).bind k:=by
 simp only [Cl.K,bcond,Option.bind_some,Option.bind_none]
theorem Cl.os {j k:Nat} {x y:Q} (hx:x.Bd j) (hy:y.Bd k) (hj:j≤PRM) (hk:k≤PRM):
  Cl.o (dI x.c0).1 (dI x.c0).2 (dI x.c1).1 (dI x.c1).2 (dI x.c2).1 (dI x.c2).2 (dI x.c3).1 (dI x.c3).2 (dI x.d).1 (dI x.d).2 (dI y.c0).1 (dI y.c0).2 (dI y.c1).1 (dI y.c1).2 (dI y.c2).1 (dI y.c2).2 (dI y.c3).1 (dI y.c3).2 (dI y.d).1 (dI y.d).2=some (C5 (bif x.ok&&y.ok then qadd x y else Q.zero)):=by
 unfold PRM at hj hk
 have hL:j≤LIM:=by unfold LIM; omega
 have hM:k≤LIM:=by unfold LIM; omega
 have v1:=Ae.ps hx hL
 have v2:=Ae.es hx hL
 have v3:=Ae.ps hy hM
 have v4:=Ae.es hy hM
 simp only [Cl.o,Cl.K,v1,v2,v3,v4,cond_true]
 cases ox:x.ok with
 |false=>simp only [Bool.not_false,cond_true,Bool.false_and,cond_false,Kr]
 |true=>
 cases oy:y.ok with
 |false=>simp only [Bool.not_true,Bool.not_false,cond_true,Bool.and_false,cond_false,Kr]
 |true=>
 have m:∀ {a b:Int},Bd j a→Bd k b→Cb.pre (dI a).1 (dI a).2 (dI b).1 (dI b).2=true:=fun ha hb=>Jc ha hb hL hM
 have m':∀ {a b:Int},Bd k a→Bd j b→Cb.pre (dI a).1 (dI a).2 (dI b).1 (dI b).2=true:=fun ha hb=>Jc ha hb hM hL
 have ad:∀ {a b c d:Int},Bd j a→Bd k b→Bd k c→Bd j d→Dt.pre (dI (a*b)).1 (dI (a*b)).2 (dI (c*d)).1 (dI (c*d)).2=true:=fun ha hb hc hd=>O7 (ha.mul hb) (hc.mul hd) (by unfold LIM; omega) (by unfold LIM; omega)
 have l1:=Bc.ps (q:=qsum x y) (Nd hx hy) (by unfold LIM; omega) (HB ox oy)
 have l2:=Bc.es (q:=qsum x y) (Nd hx hy) (by unfold LIM; omega) (HB ox oy)
 simp only [qsum] at l1 l2
 simp only [Bool.not_true,cond_false,m hx.c0 hy.d,m' hy.c0 hx.d,m hx.c1 hy.d,m' hy.c1 hx.d,m hx.c2 hy.d,m' hy.c2 hx.d,m hx.c3 hy.d,m' hy.c3 hx.d,m hx.d hy.d,GV,ad hx.c0 hy.d hy.c0 hx.d,ad hx.c1 hy.d hy.c1 hx.d,ad hx.c2 hy.d hy.c2 hx.d,ad hx.c3 hy.d hy.c3 hx.d,IW,l1,l2,cond_true,Bool.and_self]
 rfl
theorem Cl.ps {j k:Nat} {x y:Q} (hx:x.Bd j) (hy:y.Bd k) (hj:j≤PRM) (hk:k≤PRM):Cl.pre (dI x.c0).1 (dI x.c0).2 (dI x.c1).1 (dI x.c1).2 (dI x.c2).1 (dI x.c2).2 (dI x.c3).1 (dI x.c3).2 (dI x.d).1 (dI x.d).2 (dI y.c0).1 (dI y.c0).2 (dI y.c1).1 (dI y.c1).2 (dI y.c2).1 (dI y.c2).2 (dI y.c3).1 (dI y.c3).2 (dI y.d).1 (dI y.d).2=true:=Ey (Cl.os hx hy hj hk)
theorem Cl.es {j k:Nat} {x y:Q} (hx:x.Bd j) (hy:y.Bd k) (hj:j≤PRM) (hk:k≤PRM):Cl (dI x.c0).1 (dI x.c0).2 (dI x.c1).1 (dI x.c1).2 (dI x.c2).1 (dI x.c2).2 (dI x.c3).1 (dI x.c3).2 (dI x.d).1 (dI x.d).2 (dI y.c0).1 (dI y.c0).2 (dI y.c1).1 (dI y.c1).2 (dI y.c2).1 (dI y.c2).2 (dI y.c3).1 (dI y.c3).2 (dI y.d).1 (dI y.d).2=C5 (bif x.ok&&y.ok then qadd x y else Q.zero):=Fq (Cl.os hx hy hj hk)
end
theorem Cl.ok:SOK Tryz.prog 71 (Cl.sp Cl Cl.pre):=by
 refine Cq (E:=⟨[(68,Ae.sp Ae Ae.pre),(101,Dt.sp Dt Dt.pre),(102,Cb.sp Cb Cb.pre),(103,Bc.sp Bc Bc.pre)],[],[]⟩) (L:=[]) ⟨(Aa Ae.ok (Aa Dt.ok (Aa Cb.ok (Aa Bc.ok Ac)))),Ai,Ad,Ah⟩ 60 Tryz.func71 (by decide) rfl Bs fun vs bl v bl' h=> ?_
 unfold Cl.sp at h
 split at h
 ·rename_i A2 A3 A8 A7 A6 A9 AB AA AD AC A5 A4 AF AE AH AG AO AN AK AJ
  simp only [Option.some.injEq,Prod.mk.injEq] at h
  obtain ⟨hp,rfl,rfl⟩:=h
  have hr:=Cl.run Ae Ae.pre Dt Dt.pre Cb Cb.pre Bc Bc.pre A2 A3 A8 A7 A6 A9 AB AA AD AC A5 A4 AF AE AH AG AO AN AK AJ
  rw [Cl.nat] at hr
  obtain ⟨r,h2⟩:=Option.isSome_iff_exists.1 (hp:(Cl.o A2 A3 A8 A7 A6 A9 AB AA AD AC A5 A4 AF AE AH AG AO AN AK AJ).isSome=true)
  have h3:Cl A2 A3 A8 A7 A6 A9 AB AA AD AC A5 A4 AF AE AH AG AO AN AK AJ=r:=by unfold Cl; rw [h2]; rfl
  have h4:Cl.K Ae Ae.pre Dt Dt.pre Cb Cb.pre Bc Bc.pre A2 A3 A8 A7 A6 A9 AB AA AD AC A5 A4 AF AE AH AG AO AN AK AJ some=some r:=h2
  rw [h4,Option.bind_some] at hr
  rw [h3]
  exact ⟨hr,by simp [okV,Nat.blt],clo_spec 8 _ (by kernel_rfl),As (by kernel_rfl)⟩
 ·cases h
section
variable {R:Type} (C0:TF5 (Bool)) (BZ:TF5 Bool) (CU:Bool→ByteArray→(Bool×ByteArray)) (A2:Bool) (A3:ByteArray) (A8:Bool) (A7:ByteArray) (A6:Bool) (A9:ByteArray) (AB:Bool) (AA:ByteArray) (AD:Bool) (AC:ByteArray)
def Dq.K (k:TY5→Option R):Option R:=
 let t0:=BZ A2 A3 A8 A7 A6 A9 AB AA AD AC
 bif t0 then
 let t1:=C0 A2 A3 A8 A7 A6 A9 AB AA AD AC
 bif !t1 then k (false,{data:= #[]},false,{data:= #[]},false,{data:= #[]},false,{data:= #[]},false,{data:= #[]}) else
 let t2:=CU A2 A3
 let t3:=CU A8 A7
 let t4:=CU A6 A9
 let t5:=CU AB AA
 k (t2.1,t2.2,t3.1,t3.2,t4.1,t4.2,t5.1,t5.2,AD,AC) else none
theorem Dq.run:xfn Tryz.prog ⟨[(68,Ae.sp C0 BZ),(126,Em.sp CU)],[],[]⟩ [] 60 Tryz.f128 [.agg ⟨[.bool A2,.string A3,.bool A8,.string A7,.bool A6,.string A9,.bool AB,.string AA,.bool AD,.string AC]⟩] []=Dq.K C0 BZ CU A2 A3 A8 A7 A6 A9 AB AA AD AC (fun r=>some (.agg ⟨[.bool r.1,.string r.2.1,.bool r.2.2.1,.string r.2.2.2.1,.bool r.2.2.2.2.1,.string r.2.2.2.2.2.1,.bool r.2.2.2.2.2.2.1,.string r.2.2.2.2.2.2.2.1,.bool r.2.2.2.2.2.2.2.2.1,.string r.2.2.2.2.2.2.2.2.2]⟩,[])):=by kernel_rfl
def Dq.o:Option (TY5):=Dq.K Ae Ae.pre Em A2 A3 A8 A7 A6 A9 AB AA AD AC some
def Dq.pre:Bool:=(Dq.o A2 A3 A8 A7 A6 A9 AB AA AD AC).isSome
def Dq:TY5:=(Dq.o A2 A3 A8 A7 A6 A9 AB AA AD AC).getD default
theorem Dq.nat (k:TY5→Option R):Dq.K C0 BZ CU A2 A3 A8 A7 A6 A9 AB AA AD AC k=(Dq.K C0 BZ CU A2 A3 A8 A7 A6 A9 AB AA AD AC some).bind k:=by
 simp only [Dq.K,bcond,Option.bind_some,Option.bind_none]
theorem Dq.os {k:Nat} {x:Q} (h:x.Bd k) (hk:k≤PRM):Dq.o (dI x.c0).1 (dI x.c0).2 (dI x.c1).1 (dI x.c1).2 (dI x.c2).1 (dI x.c2).2 (dI x.c3).1 (dI x.c3).2 (dI x.d).1 (dI x.d).2=some (C5 (bif x.ok then qneg x else Q.zero)):=by
 have hL:k≤LIM:=by unfold LIM; unfold PRM at hk; omega
 simp only [Dq.o,Dq.K,Ae.ps h hL,Ae.es h hL,IV,cond_true]
 cases x.ok with
 |false=>simp only [Bool.not_false,cond_true,cond_false,Kr]
 |true=>rfl
theorem Dq.ps {k:Nat} {x:Q} (h:x.Bd k) (hk:k≤PRM):Dq.pre (dI x.c0).1 (dI x.c0).2 (dI x.c1).1 (dI x.c1).2 (dI x.c2).1 (dI x.c2).2 (dI x.c3).1 (dI x.c3).2 (dI x.d).1 (dI x.d).2=true:=Ey (Dq.os h hk)
theorem Dq.es {k:Nat} {x:Q} (h:x.Bd k) (hk:k≤PRM):Dq (dI x.c0).1 (dI x.c0).2 (dI x.c1).1 (dI x.c1).2 (dI x.c2).1 (dI x.c2).2 (dI x.c3).1 (dI x.c3).2 (dI x.d).1 (dI x.d).2=C5 (bif x.ok then qneg x else Q.zero):=Fq (Dq.os h hk)
end
theorem Dq.ok:SOK Tryz.prog 128 (Dq.sp Dq Dq.pre):=by
 refine Cq (E:=⟨[(68,Ae.sp Ae Ae.pre),(126,Em.sp Em)],[],[]⟩) (L:=[]) ⟨(Aa Ae.ok (Aa Em.ok Ac)),Ai,Ad,Ah⟩ 60 Tryz.func128 (by decide) rfl Bs fun vs bl v bl' h=> ?_
 unfold Dq.sp at h
 split at h
 ·rename_i A2 A3 A8 A7 A6 A9 AB AA AD AC
  simp only [Option.some.injEq,Prod.mk.injEq] at h
  obtain ⟨hp,rfl,rfl⟩:=h
  have hr:=Dq.run Ae Ae.pre Em A2 A3 A8 A7 A6 A9 AB AA AD AC
  rw [Dq.nat] at hr
  obtain ⟨r,h2⟩:=Option.isSome_iff_exists.1 (hp:(Dq.o A2 A3 A8 A7 A6 A9 AB AA AD AC).isSome=true)
  have h3:Dq A2 A3 A8 A7 A6 A9 AB AA AD AC=r:=by unfold Dq; rw [h2]; rfl
  have h4:Dq.K Ae Ae.pre Em A2 A3 A8 A7 A6 A9 AB AA AD AC some=some r:=h2
  rw [h4,Option.bind_some] at hr
  rw [h3]
  exact ⟨hr,by simp [okV,Nat.blt],clo_spec 8 _ (by kernel_rfl),As (by kernel_rfl)⟩
 ·cases h
section
variable {R:Type} (DW:TF10 (TY5)) (DV:TF10 Bool) (GJ:TF5 (TY5)) (GF:TF5 Bool) (A2:Bool) (A3:ByteArray) (A8:Bool) (A7:ByteArray) (A6:Bool) (A9:ByteArray) (AB:Bool) (AA:ByteArray) (AD:Bool) (AC:ByteArray) (A5:Bool) (A4:ByteArray) (AF:Bool) (AE:ByteArray) (AH:Bool) (AG:ByteArray) (AO:Bool) (AN:ByteArray) (AK:Bool) (AJ:ByteArray)
def Dn.K (k:TY5→Option R):Option R:=
 let t0:=GF A5 A4 AF AE AH AG AO AN AK AJ
 bif t0 then
 let t1:=GJ A5 A4 AF AE AH AG AO AN AK AJ
 let t2:=DV A2 A3 A8 A7 A6 A9 AB AA AD AC t1.1 t1.2.1 t1.2.2.1 t1.2.2.2.1 t1.2.2.2.2.1 t1.2.2.2.2.2.1 t1.2.2.2.2.2.2.1 t1.2.2.2.2.2.2.2.1 t1.2.2.2.2.2.2.2.2.1 t1.2.2.2.2.2.2.2.2.2
 bif t2 then
 let t3:=DW A2 A3 A8 A7 A6 A9 AB AA AD AC t1.1 t1.2.1 t1.2.2.1 t1.2.2.2.1 t1.2.2.2.2.1 t1.2.2.2.2.2.1 t1.2.2.2.2.2.2.1 t1.2.2.2.2.2.2.2.1 t1.2.2.2.2.2.2.2.2.1 t1.2.2.2.2.2.2.2.2.2
 k (t3.1,t3.2.1,t3.2.2.1,t3.2.2.2.1,t3.2.2.2.2.1,t3.2.2.2.2.2.1,t3.2.2.2.2.2.2.1,t3.2.2.2.2.2.2.2.1,t3.2.2.2.2.2.2.2.2.1,t3.2.2.2.2.2.2.2.2.2) else none else none
theorem Dn.run:xfn Tryz.prog ⟨[(71,Cl.sp DW DV),(128,Dq.sp GJ GF)],[],[]⟩ [] 60 Tryz.f105 [.agg ⟨[.bool A2,.string A3,.bool A8,.string A7,.bool A6,.string A9,.bool AB,.string AA,.bool AD,.string AC]⟩,.agg ⟨[.bool A5,.string A4,.bool AF,.string AE,.bool AH,.string AG,.bool AO,.string AN,.bool AK,.string AJ]⟩] []=Dn.K DW DV GJ GF A2 A3 A8 A7 A6 A9 AB AA AD AC A5 A4 AF AE AH AG AO AN AK AJ (fun r=>some (.agg ⟨[.bool r.1,.string r.2.1,.bool r.2.2.1,.string r.2.2.2.1,.bool r.2.2.2.2.1,.string r.2.2.2.2.2.1,.bool r.2.2.2.2.2.2.1,.string r.2.2.2.2.2.2.2.1,.bool r.2.2.2.2.2.2.2.2.1,.string r.2.2.2.2.2.2.2.2.2]⟩,[])):=by kernel_rfl
def Dn.o:Option (TY5):=Dn.K Cl Cl.pre Dq Dq.pre A2 A3 A8 A7 A6 A9 AB AA AD AC A5 A4 AF AE AH AG AO AN AK AJ some
def Dn.pre:Bool:=(Dn.o A2 A3 A8 A7 A6 A9 AB AA AD AC A5 A4 AF AE AH AG AO AN AK AJ).isSome
def Dn:TY5:=(Dn.o A2 A3 A8 A7 A6 A9 AB AA AD AC A5 A4 AF AE AH AG AO AN AK AJ).getD default
theorem Dn.nat (k:TY5→Option R):Dn.K DW DV GJ GF A2 A3 A8 A7 A6 A9 AB AA AD AC A5 A4 AF AE AH AG AO AN AK AJ k=(Dn.K DW DV GJ GF A2 A3 A8 A7 A6 A9 AB AA AD AC A5 A4 AF AE AH AG AO AN AK AJ some).bind k:=by
 simp only [Dn.K,bcond,Option.bind_some,Option.bind_none]
theorem Dn.os {j k:Nat} {x y:Q} (hx:x.Bd j) (hy:y.Bd k) (hj:j≤PRM) (hk:k≤PRM):Dn.o (dI x.c0).1 (dI x.c0).2 (dI x.c1).1 (dI x.c1).2 (dI x.c2).1 (dI x.c2).2 (dI x.c3).1 (dI x.c3).2 (dI x.d).1 (dI x.d).2 (dI y.c0).1 (dI y.c0).2 (dI y.c1).1 (dI y.c1).2 (dI y.c2).1 (dI y.c2).2 (dI y.c3).1 (dI y.c3).2 (dI y.d).1 (dI y.d).2=some (C5 (bif x.ok&&y.ok then qsub x y else Q.zero)):=by
 have n1:=Dq.ps hy hk
 have n2:=Dq.es hy hk
 cases oy:y.ok with
 | true=>
  rw [oy,cond_true] at n2
  have a1:=Cl.ps hx (Nf hy) hj hk
  have a2:=Cl.es hx (Nf hy) hj hk
  rw [KR,oy] at a2
  simp only [Dn.o,Dn.K,n1,n2,C5,a1,a2,cond_true]
  rfl
 | false=>
  rw [oy,cond_false] at n2
  have a1:=Cl.ps hx (Hw k) hj hk
  have a2:=Cl.es hx (Hw k) hj hk
  rw [Pv] at a2
  simp only [Dn.o,Dn.K,n1,n2,C5,a1,a2,cond_true,Bool.and_false,cond_false]
theorem Dn.ps {j k:Nat} {x y:Q} (hx:x.Bd j) (hy:y.Bd k) (hj:j≤PRM) (hk:k≤PRM):Dn.pre (dI x.c0).1 (dI x.c0).2 (dI x.c1).1 (dI x.c1).2 (dI x.c2).1 (dI x.c2).2 (dI x.c3).1 (dI x.c3).2 (dI x.d).1 (dI x.d).2 (dI y.c0).1 (dI y.c0).2 (dI y.c1).1 (dI y.c1).2 (dI y.c2).1 (dI y.c2).2 (dI y.c3).1 (dI y.c3).2 (dI y.d).1 (dI y.d).2=true:=Ey (Dn.os hx hy hj hk)
theorem Dn.es {j k:Nat} {x y:Q} (hx:x.Bd j) (hy:y.Bd k) (hj:j≤PRM) (hk:k≤PRM):Dn (dI x.c0).1 (dI x.c0).2 (dI x.c1).1 (dI x.c1).2 (dI x.c2).1 (dI x.c2).2 (dI x.c3).1 (dI x.c3).2 (dI x.d).1 (dI x.d).2 (dI y.c0).1 (dI y.c0).2 (dI y.c1).1 (dI y.c1).2 (dI y.c2).1 (dI y.c2).2 (dI y.c3).1 (dI y.c3).2 (dI y.d).1 (dI y.d).2=C5 (bif x.ok&&y.ok then qsub x y else Q.zero):=Fq (Dn.os hx hy hj hk)
end
theorem Dn.ok:SOK Tryz.prog 105 (Dn.sp Dn Dn.pre):=by
 refine Cq (E:=⟨[(71,Cl.sp Cl Cl.pre),(128,Dq.sp Dq Dq.pre)],[],[]⟩) (L:=[]) ⟨(Aa Cl.ok (Aa Dq.ok Ac)),Ai,Ad,Ah⟩ 60 Tryz.func105 (by decide) rfl Bs fun vs bl v bl' h=> ?_
 unfold Dn.sp at h
 split at h
 ·rename_i A2 A3 A8 A7 A6 A9 AB AA AD AC A5 A4 AF AE AH AG AO AN AK AJ
  simp only [Option.some.injEq,Prod.mk.injEq] at h
  obtain ⟨hp,rfl,rfl⟩:=h
  have hr:=Dn.run Cl Cl.pre Dq Dq.pre A2 A3 A8 A7 A6 A9 AB AA AD AC A5 A4 AF AE AH AG AO AN AK AJ
  rw [Dn.nat] at hr
  obtain ⟨r,h2⟩:=Option.isSome_iff_exists.1 (hp:(Dn.o A2 A3 A8 A7 A6 A9 AB AA AD AC A5 A4 AF AE AH AG AO AN AK AJ).isSome=true)
  have h3:Dn A2 A3 A8 A7 A6 A9 AB AA AD AC A5 A4 AF AE AH AG AO AN AK AJ=r:=by unfold Dn; rw [h2]; rfl
  have h4:Dn.K Cl Cl.pre Dq Dq.pre A2 A3 A8 A7 A6 A9 AB AA AD AC A5 A4 AF AE AH AG AO AN AK AJ some=some r:=h2
  rw [h4,Option.bind_some] at hr
  rw [h3]
  exact ⟨hr,by simp [okV,Nat.blt],clo_spec 8 _ (by kernel_rfl),As (by kernel_rfl)⟩
 ·cases h
section
variable {R:Type} (EH:TF5 (Int)) (EG:TF5 Bool) (GI:TF10 (TY5)) (GE:TF10 Bool) (A2:Bool) (A3:ByteArray) (A8:Bool) (A7:ByteArray) (A6:Bool) (A9:ByteArray) (AB:Bool) (AA:ByteArray) (AD:Bool) (AC:ByteArray) (A5:Bool) (A4:ByteArray) (AF:Bool) (AE:ByteArray) (AH:Bool) (AG:ByteArray) (AO:Bool) (AN:ByteArray) (AK:Bool) (AJ:ByteArray)
def Cr.K (k:(Int)→Option R):Option R:=
 let t0:=GE A2 A3 A8 A7 A6 A9 AB AA AD AC A5 A4 AF AE AH AG AO AN AK AJ
 bif t0 then
 let t1:=GI A2 A3 A8 A7 A6 A9 AB AA AD AC A5 A4 AF AE AH AG AO AN AK AJ
 let t2:=EG t1.1 t1.2.1 t1.2.2.1 t1.2.2.2.1 t1.2.2.2.2.1 t1.2.2.2.2.2.1 t1.2.2.2.2.2.2.1 t1.2.2.2.2.2.2.2.1 t1.2.2.2.2.2.2.2.2.1 t1.2.2.2.2.2.2.2.2.2
 bif t2 then
 let t3:=EH t1.1 t1.2.1 t1.2.2.1 t1.2.2.2.1 t1.2.2.2.2.1 t1.2.2.2.2.2.1 t1.2.2.2.2.2.2.1 t1.2.2.2.2.2.2.2.1 t1.2.2.2.2.2.2.2.2.1 t1.2.2.2.2.2.2.2.2.2
 k (t3) else none else none
theorem Cr.run:xfn Tryz.prog ⟨[(75,Cf.sp EH EG),(105,Dn.sp GI GE)],[],[]⟩ [] 60 Tryz.f74 [.agg ⟨[.bool A2,.string A3,.bool A8,.string A7,.bool A6,.string A9,.bool AB,.string AA,.bool AD,.string AC]⟩,.agg ⟨[.bool A5,.string A4,.bool AF,.string AE,.bool AH,.string AG,.bool AO,.string AN,.bool AK,.string AJ]⟩] []=Cr.K EH EG GI GE A2 A3 A8 A7 A6 A9 AB AA AD AC A5 A4 AF AE AH AG AO AN AK AJ (fun r=>some (.int .i64 r,[])):=by kernel_rfl
def Cr.o:Option (Int):=Cr.K Cf Cf.pre Dn Dn.pre A2 A3 A8 A7 A6 A9 AB AA AD AC A5 A4 AF AE AH AG AO AN AK AJ some
def Cr.pre:Bool:=(Cr.o A2 A3 A8 A7 A6 A9 AB AA AD AC A5 A4 AF AE AH AG AO AN AK AJ).isSome
def Cr:Int:=(Cr.o A2 A3 A8 A7 A6 A9 AB AA AD AC A5 A4 AF AE AH AG AO AN AK AJ).getD default
theorem Cr.nat (k:(Int)→Option R):Cr.K EH EG GI GE A2 A3 A8 A7 A6 A9 AB AA AD AC A5 A4 AF AE AH AG AO AN AK AJ k=(Cr.K EH EG GI GE A2 A3 A8 A7 A6 A9 AB AA AD AC A5 A4 AF AE AH AG AO AN AK AJ some).bind k:=by
 simp only [Cr.K,bcond,Option.bind_some,Option.bind_none]
theorem Cr.os {j k:Nat} {x y:Q} (hx:x.Bd j) (hy:y.Bd k) (h:2*(j+k)+5≤PRM):Cr.o (dI x.c0).1 (dI x.c0).2 (dI x.c1).1 (dI x.c1).2 (dI x.c2).1 (dI x.c2).2 (dI x.c3).1 (dI x.c3).2 (dI x.d).1 (dI x.d).2 (dI y.c0).1 (dI y.c0).2 (dI y.c1).1 (dI y.c1).2 (dI y.c2).1 (dI y.c2).2 (dI y.c3).1 (dI y.c3).2 (dI y.d).1 (dI y.d).2=some (bif x.ok&&y.ok then (qsub x y).sg else 0):=by
 have n1:=Dn.ps hx hy (by omega) (by omega)
 have n2:=Dn.es hx hy (by omega) (by omega)
 cases ho:x.ok&&y.ok with
 | true=>
  rw [ho,cond_true] at n2
  simp only [Bool.and_eq_true] at ho
  have oq:(qsub x y).ok=true:=Iq ho.1 (by rw [KR]; exact ho.2)
  have bq:(qsub x y).Bd (j+k+1):=Ln hx (Nf hy) ho.1 (by rw [KR]; exact ho.2)
  have s1:=Cf.ps bq (by omega)
  have s2:=Cf.es bq (by omega)
  rw [oq] at s2
  simp only [Cr.o,Cr.K,n1,n2,C5,s1,s2,cond_true]
 | false=>
  rw [ho,cond_false] at n2
  have s1:=Cf.ps (Hw 0) (by omega)
  have s2:=Cf.es (Hw 0) (by omega)
  rw [Pv] at s2
  simp only [Cr.o,Cr.K,n1,n2,C5,s1,s2,cond_true,cond_false]
theorem Cr.ps {j k:Nat} {x y:Q} (hx:x.Bd j) (hy:y.Bd k) (h:2*(j+k)+5≤PRM):Cr.pre (dI x.c0).1 (dI x.c0).2 (dI x.c1).1 (dI x.c1).2 (dI x.c2).1 (dI x.c2).2 (dI x.c3).1 (dI x.c3).2 (dI x.d).1 (dI x.d).2 (dI y.c0).1 (dI y.c0).2 (dI y.c1).1 (dI y.c1).2 (dI y.c2).1 (dI y.c2).2 (dI y.c3).1 (dI y.c3).2 (dI y.d).1 (dI y.d).2=true:=Ey (Cr.os hx hy h)
theorem Cr.es {j k:Nat} {x y:Q} (hx:x.Bd j) (hy:y.Bd k) (h:2*(j+k)+5≤PRM):Cr (dI x.c0).1 (dI x.c0).2 (dI x.c1).1 (dI x.c1).2 (dI x.c2).1 (dI x.c2).2 (dI x.c3).1 (dI x.c3).2 (dI x.d).1 (dI x.d).2 (dI y.c0).1 (dI y.c0).2 (dI y.c1).1 (dI y.c1).2 (dI y.c2).1 (dI y.c2).2 (dI y.c3).1 (dI y.c3).2 (dI y.d).1 (dI y.d).2=bif x.ok&&y.ok then (qsub x y).sg else 0:=Fq (Cr.os hx hy h)
end
theorem Cr.ok:SOK Tryz.prog 74 (Cr.sp Cr Cr.pre):=by
 refine Cq (E:=⟨[(75,Cf.sp Cf Cf.pre),(105,Dn.sp Dn Dn.pre)],[],[]⟩) (L:=[]) ⟨(Aa Cf.ok (Aa Dn.ok Ac)),Ai,Ad,Ah⟩ 60 Tryz.func74 (by decide) rfl Bs fun vs bl v bl' h=> ?_
 unfold Cr.sp at h
 split at h
 ·rename_i A2 A3 A8 A7 A6 A9 AB AA AD AC A5 A4 AF AE AH AG AO AN AK AJ
  simp only [Option.some.injEq,Prod.mk.injEq] at h
  obtain ⟨hp,rfl,rfl⟩:=h
  have hr:=Cr.run Cf Cf.pre Dn Dn.pre A2 A3 A8 A7 A6 A9 AB AA AD AC A5 A4 AF AE AH AG AO AN AK AJ
  rw [Cr.nat] at hr
  obtain ⟨r,h2⟩:=Option.isSome_iff_exists.1 (hp:(Cr.o A2 A3 A8 A7 A6 A9 AB AA AD AC A5 A4 AF AE AH AG AO AN AK AJ).isSome=true)
  have h3:Cr A2 A3 A8 A7 A6 A9 AB AA AD AC A5 A4 AF AE AH AG AO AN AK AJ=r:=by unfold Cr; rw [h2]; rfl
  have h4:Cr.K Cf Cf.pre Dn Dn.pre A2 A3 A8 A7 A6 A9 AB AA AD AC A5 A4 AF AE AH AG AO AN AK AJ some=some r:=h2
  rw [h4,Option.bind_some] at hr
  rw [h3]
  exact ⟨hr,by simp [okV,Nat.blt],clo_spec 8 _ (by kernel_rfl),As (by kernel_rfl)⟩
 ·cases h
section
variable {R:Type} (C0:TF5 (Bool)) (BZ:TF5 Bool) (D3:TF10 (TY5)) (D2:TF10 Bool) (A2:Bool) (A3:ByteArray) (A8:Bool) (A7:ByteArray) (A6:Bool) (A9:ByteArray) (AB:Bool) (AA:ByteArray) (AD:Bool) (AC:ByteArray) (A5:Bool) (A4:ByteArray) (AF:Bool) (AE:ByteArray) (AH:Bool) (AG:ByteArray) (AO:Bool) (AN:ByteArray) (AK:Bool) (AJ:ByteArray)
def Co.K (k:TY5→Option R):Option R:=
 let t0:=BZ A2 A3 A8 A7 A6 A9 AB AA AD AC
 bif t0 then
 let t1:=C0 A2 A3 A8 A7 A6 A9 AB AA AD AC
 bif !t1 then k (false,{data:= #[]},false,{data:= #[]},false,{data:= #[]},false,{data:= #[]},false,{data:= #[]}) else
 let t2:=BZ A5 A4 AF AE AH AG AO AN AK AJ
 bif t2 then
 let t3:=C0 A5 A4 AF AE AH AG AO AN AK AJ
 bif !t3 then k (false,{data:= #[]},false,{data:= #[]},false,{data:= #[]},false,{data:= #[]},false,{data:= #[]}) else
 let t4:=D2 A2 A3 A8 A7 A6 A9 AB AA AD AC A5 A4 AF AE AH AG AO AN AK AJ
 bif t4 then
 let t5:=D3 A2 A3 A8 A7 A6 A9 AB AA AD AC A5 A4 AF AE AH AG AO AN AK AJ
 k (t5.1,t5.2.1,t5.2.2.1,t5.2.2.2.1,t5.2.2.2.2.1,t5.2.2.2.2.2.1,t5.2.2.2.2.2.2.1,t5.2.2.2.2.2.2.2.1,t5.2.2.2.2.2.2.2.2.1,t5.2.2.2.2.2.2.2.2.2) else none else none else none
theorem Co.run:xfn Tryz.prog ⟨[(68,Ae.sp C0 BZ),(100,Bw.sp D3 D2)],[],[]⟩ [] 60 Tryz.f69 [.agg ⟨[.bool A2,.string A3,.bool A8,.string A7,.bool A6,.string A9,.bool AB,.string AA,.bool AD,.string AC]⟩,.agg ⟨[.bool A5,.string A4,.bool AF,.string AE,.bool AH,.string AG,.bool AO,.string AN,.bool AK,.string AJ]⟩] []=Co.K C0 BZ D3 D2 A2 A3 A8 A7 A6 A9 AB AA AD AC A5 A4 AF AE AH AG AO AN AK AJ (fun r=>some (.agg ⟨[.bool r.1,.string r.2.1,.bool r.2.2.1,.string r.2.2.2.1,.bool r.2.2.2.2.1,.string r.2.2.2.2.2.1,.bool r.2.2.2.2.2.2.1,.string r.2.2.2.2.2.2.2.1,.bool r.2.2.2.2.2.2.2.2.1,.string r.2.2.2.2.2.2.2.2.2]⟩,[])):=by kernel_rfl
def Co.o:Option (TY5):=Co.K Ae Ae.pre Bw Bw.pre A2 A3 A8 A7 A6 A9 AB AA AD AC A5 A4 AF AE AH AG AO AN AK AJ some
def Co.pre:Bool:=(Co.o A2 A3 A8 A7 A6 A9 AB AA AD AC A5 A4 AF AE AH AG AO AN AK AJ).isSome
def Co:TY5:=(Co.o A2 A3 A8 A7 A6 A9 AB AA AD AC A5 A4 AF AE AH AG AO AN AK AJ).getD default
theorem Co.nat (k:TY5→Option R):Co.K C0 BZ D3 D2 A2 A3 A8 A7 A6 A9 AB AA AD AC A5 A4 AF AE AH AG AO AN AK AJ k=(Co.K C0 BZ D3 D2 A2 A3 A8 A7 A6 A9 AB AA AD AC A5 A4 AF AE AH AG AO AN AK AJ some).bind k:=by
 simp only [Co.K,bcond,Option.bind_some,Option.bind_none]
theorem Co.os {j k:Nat} {x y:Q} (hx:x.Bd j) (hy:y.Bd k) (hj:j≤PRM) (hk:k≤PRM):Co.o (dI x.c0).1 (dI x.c0).2 (dI x.c1).1 (dI x.c1).2 (dI x.c2).1 (dI x.c2).2 (dI x.c3).1 (dI x.c3).2 (dI x.d).1 (dI x.d).2 (dI y.c0).1 (dI y.c0).2 (dI y.c1).1 (dI y.c1).2 (dI y.c2).1 (dI y.c2).2 (dI y.c3).1 (dI y.c3).2 (dI y.d).1 (dI y.d).2=some (C5 (bif x.ok&&y.ok then qmul x y else Q.zero)):=by
 have hL:j≤LIM:=by unfold LIM; unfold PRM at hj; omega
 have hM:k≤LIM:=by unfold LIM; unfold PRM at hk; omega
 have v1:=Ae.ps hx hL
 have v2:=Ae.es hx hL
 have v3:=Ae.ps hy hM
 have v4:=Ae.es hy hM
 simp only [Co.o,Co.K,v1,v2,v3,v4,cond_true]
 cases ox:x.ok with
 |false=>simp only [Bool.not_false,cond_true,Bool.false_and,cond_false,Kr]
 |true=>
 cases oy:y.ok with
 |false=>simp only [Bool.not_true,Bool.not_false,cond_true,Bool.and_false,cond_false,Kr]
 |true=>
 have p1:=Bw.ps hx hy hj hk (HB ox oy)
 have p2:=Bw.es hx hy hj hk (HB ox oy)
 simp only [Bool.not_true,cond_false,p1,p2,cond_true,Bool.and_self]
 rfl
theorem Co.ps {j k:Nat} {x y:Q} (hx:x.Bd j) (hy:y.Bd k) (hj:j≤PRM) (hk:k≤PRM):Co.pre (dI x.c0).1 (dI x.c0).2 (dI x.c1).1 (dI x.c1).2 (dI x.c2).1 (dI x.c2).2 (dI x.c3).1 (dI x.c3).2 (dI x.d).1 (dI x.d).2 (dI y.c0).1 (dI y.c0).2 (dI y.c1).1 (dI y.c1).2 (dI y.c2).1 (dI y.c2).2 (dI y.c3).1 (dI y.c3).2 (dI y.d).1 (dI y.d).2=true:=Ey (Co.os hx hy hj hk)
theorem Co.es {j k:Nat} {x y:Q} (hx:x.Bd j) (hy:y.Bd k) (hj:j≤PRM) (hk:k≤PRM):Co (dI x.c0).1 (dI x.c0).2 (dI x.c1).1 (dI x.c1).2 (dI x.c2).1 (dI x.c2).2 (dI x.c3).1 (dI x.c3).2 (dI x.d).1 (dI x.d).2 (dI y.c0).1 (dI y.c0).2 (dI y.c1).1 (dI y.c1).2 (dI y.c2).1 (dI y.c2).2 (dI y.c3).1 (dI y.c3).2 (dI y.d).1 (dI y.d).2=C5 (bif x.ok&&y.ok then qmul x y else Q.zero):=Fq (Co.os hx hy hj hk)
end
theorem Co.ok:SOK Tryz.prog 69 (Co.sp Co Co.pre):=by
 refine Cq (E:=⟨[(68,Ae.sp Ae Ae.pre),(100,Bw.sp Bw Bw.pre)],[],[]⟩) (L:=[]) ⟨(Aa Ae.ok (Aa Bw.ok Ac)),Ai,Ad,Ah⟩ 60 Tryz.func69 (by decide) rfl Bs fun vs bl v bl' h=> ?_
 unfold Co.sp at h
 split at h
 ·rename_i A2 A3 A8 A7 A6 A9 AB AA AD AC A5 A4 AF AE AH AG AO AN AK AJ
  simp only [Option.some.injEq,Prod.mk.injEq] at h
  obtain ⟨hp,rfl,rfl⟩:=h
  have hr:=Co.run Ae Ae.pre Bw Bw.pre A2 A3 A8 A7 A6 A9 AB AA AD AC A5 A4 AF AE AH AG AO AN AK AJ
  rw [Co.nat] at hr
  obtain ⟨r,h2⟩:=Option.isSome_iff_exists.1 (hp:(Co.o A2 A3 A8 A7 A6 A9 AB AA AD AC A5 A4 AF AE AH AG AO AN AK AJ).isSome=true)
  have h3:Co A2 A3 A8 A7 A6 A9 AB AA AD AC A5 A4 AF AE AH AG AO AN AK AJ=r:=by unfold Co; rw [h2]; rfl
  have h4:Co.K Ae Ae.pre Bw Bw.pre A2 A3 A8 A7 A6 A9 AB AA AD AC A5 A4 AF AE AH AG AO AN AK AJ some=some r:=h2
  rw [h4,Option.bind_some] at hr
  rw [h3]
  exact ⟨hr,by simp [okV,Nat.blt],clo_spec 8 _ (by kernel_rfl),As (by kernel_rfl)⟩
 ·cases h
section
variable {R:Type} (C0:TF5 (Bool)) (BZ:TF5 Bool) (BX:Int→(TY5)) (BW:Int→Bool) (D3:TF10 (TY5)) (D2:TF10 Bool) (E6:TF5 (TY5)) (E3:TF5 Bool) (CU:Bool→ByteArray→(Bool×ByteArray)) (A2:Bool) (A3:ByteArray) (A8:Bool) (A7:ByteArray) (A6:Bool) (A9:ByteArray) (AB:Bool) (AA:ByteArray) (AD:Bool) (AC:ByteArray) (A5:Bool) (A4:ByteArray) (AF:Bool) (AE:ByteArray) (AH:Bool) (AG:ByteArray) (AO:Bool) (AN:ByteArray) (AK:Bool) (AJ:ByteArray)
def Dg.K (k:Bool×ByteArray×Bool×ByteArray×Bool×ByteArray×Bool×ByteArray×Bool×ByteArray×Int→Option R):Option R:=
 let t0:=BZ A2 A3 A8 A7 A6 A9 AB AA AD AC
 bif t0 then
 let t1:=C0 A2 A3 A8 A7 A6 A9 AB AA AD AC
 bif !t1 then k (false,{data:= #[]},false,{data:= #[]},false,{data:= #[]},false,{data:= #[]},false,{data:= #[]},1) else
 let t2:=BZ A5 A4 AF AE AH AG AO AN AK AJ
 bif t2 then
 let t3:=C0 A5 A4 AF AE AH AG AO AN AK AJ
 bif !t3 then k (false,{data:= #[]},false,{data:= #[]},false,{data:= #[]},false,{data:= #[]},false,{data:= #[]},1) else
 let t4:=BW 0
 bif t4 then
 let t5:=BX 0
 bif A5==t5.1&&A4.toList==t5.2.1.toList&&(AF==t5.2.2.1&&AE.toList==t5.2.2.2.1.toList&&(AH==t5.2.2.2.2.1&&AG.toList==t5.2.2.2.2.2.1.toList&&(AO==t5.2.2.2.2.2.2.1&&AN.toList==t5.2.2.2.2.2.2.2.1.toList)))&&(AK==t5.2.2.2.2.2.2.2.2.1&&AJ.toList==t5.2.2.2.2.2.2.2.2.2.toList) then k (false,{data:= #[]},false,{data:= #[]},false,{data:= #[]},false,{data:= #[]},false,{data:= #[]},10) else
 let t6:=CU AH AG
 let t7:=CU AO AN
 let t8:=D2 A5 A4 AF AE AH AG AO AN AK AJ A5 A4 AF AE t6.1 t6.2 t7.1 t7.2 AK AJ
 bif t8 then
 let t9:=D3 A5 A4 AF AE AH AG AO AN AK AJ A5 A4 AF AE t6.1 t6.2 t7.1 t7.2 AK AJ
 let t10:=CU t9.2.2.1 t9.2.2.2.1
 let t11:=CU t9.2.2.2.2.2.2.1 t9.2.2.2.2.2.2.2.1
 let t12:=D2 t9.1 t9.2.1 t9.2.2.1 t9.2.2.2.1 t9.2.2.2.2.1 t9.2.2.2.2.2.1 t9.2.2.2.2.2.2.1 t9.2.2.2.2.2.2.2.1 t9.2.2.2.2.2.2.2.2.1 t9.2.2.2.2.2.2.2.2.2 t9.1 t9.2.1 t10.1 t10.2 t9.2.2.2.2.1 t9.2.2.2.2.2.1 t11.1 t11.2 t9.2.2.2.2.2.2.2.2.1 t9.2.2.2.2.2.2.2.2.2
 bif t12 then
 let t13:=D3 t9.1 t9.2.1 t9.2.2.1 t9.2.2.2.1 t9.2.2.2.2.1 t9.2.2.2.2.2.1 t9.2.2.2.2.2.2.1 t9.2.2.2.2.2.2.2.1 t9.2.2.2.2.2.2.2.2.1 t9.2.2.2.2.2.2.2.2.2 t9.1 t9.2.1 t10.1 t10.2 t9.2.2.2.2.1 t9.2.2.2.2.2.1 t11.1 t11.2 t9.2.2.2.2.2.2.2.2.1 t9.2.2.2.2.2.2.2.2.2
 let t14:=E3 t13.2.2.2.2.2.2.2.2.1 t13.2.2.2.2.2.2.2.2.2 false {data:= #[]} false {data:= #[]} false {data:= #[]} t13.1 t13.2.1
 bif t14 then
 let t15:=D2 A2 A3 A8 A7 A6 A9 AB AA AD AC A5 A4 AF AE t6.1 t6.2 t7.1 t7.2 AK AJ
 bif t15 then
 let t16:=E6 t13.2.2.2.2.2.2.2.2.1 t13.2.2.2.2.2.2.2.2.2 false {data:= #[]} false {data:= #[]} false {data:= #[]} t13.1 t13.2.1
 let t17:=D2 t9.1 t9.2.1 t10.1 t10.2 t9.2.2.2.2.1 t9.2.2.2.2.2.1 t11.1 t11.2 t9.2.2.2.2.2.2.2.2.1 t9.2.2.2.2.2.2.2.2.2 t16.1 t16.2.1 t16.2.2.1 t16.2.2.2.1 t16.2.2.2.2.1 t16.2.2.2.2.2.1 t16.2.2.2.2.2.2.1 t16.2.2.2.2.2.2.2.1 t16.2.2.2.2.2.2.2.2.1 t16.2.2.2.2.2.2.2.2.2
 bif t17 then
 let t18:=D3 A2 A3 A8 A7 A6 A9 AB AA AD AC A5 A4 AF AE t6.1 t6.2 t7.1 t7.2 AK AJ
 let t19:=D3 t9.1 t9.2.1 t10.1 t10.2 t9.2.2.2.2.1 t9.2.2.2.2.2.1 t11.1 t11.2 t9.2.2.2.2.2.2.2.2.1 t9.2.2.2.2.2.2.2.2.2 t16.1 t16.2.1 t16.2.2.1 t16.2.2.2.1 t16.2.2.2.2.1 t16.2.2.2.2.2.1 t16.2.2.2.2.2.2.1 t16.2.2.2.2.2.2.2.1 t16.2.2.2.2.2.2.2.2.1 t16.2.2.2.2.2.2.2.2.2
 let t20:=D2 t18.1 t18.2.1 t18.2.2.1 t18.2.2.2.1 t18.2.2.2.2.1 t18.2.2.2.2.2.1 t18.2.2.2.2.2.2.1 t18.2.2.2.2.2.2.2.1 t18.2.2.2.2.2.2.2.2.1 t18.2.2.2.2.2.2.2.2.2 t19.1 t19.2.1 t19.2.2.1 t19.2.2.2.1 t19.2.2.2.2.1 t19.2.2.2.2.2.1 t19.2.2.2.2.2.2.1 t19.2.2.2.2.2.2.2.1 t19.2.2.2.2.2.2.2.2.1 t19.2.2.2.2.2.2.2.2.2
 bif t20 then
 let t21:=D3 t18.1 t18.2.1 t18.2.2.1 t18.2.2.2.1 t18.2.2.2.2.1 t18.2.2.2.2.2.1 t18.2.2.2.2.2.2.1 t18.2.2.2.2.2.2.2.1 t18.2.2.2.2.2.2.2.2.1 t18.2.2.2.2.2.2.2.2.2 t19.1 t19.2.1 t19.2.2.1 t19.2.2.2.1 t19.2.2.2.2.1 t19.2.2.2.2.2.1 t19.2.2.2.2.2.2.1 t19.2.2.2.2.2.2.2.1 t19.2.2.2.2.2.2.2.2.1 t19.2.2.2.2.2.2.2.2.2
 k (t21.1,t21.2.1,t21.2.2.1,t21.2.2.2.1,t21.2.2.2.2.1,t21.2.2.2.2.2.1,t21.2.2.2.2.2.2.1,t21.2.2.2.2.2.2.2.1,t21.2.2.2.2.2.2.2.2.1,t21.2.2.2.2.2.2.2.2.2,0) else none else none else none else none else none else none else none else none else none
theorem Dg.run:xfn Tryz.prog ⟨[(68,Ae.sp C0 BZ),(73,By.sp BX BW),(100,Bw.sp D3 D2),(103,Bc.sp E6 E3),(126,Em.sp CU)],[(104,Tryz.f104)],[]⟩ [] 60 Tryz.f72 [.agg ⟨[.bool A2,.string A3,.bool A8,.string A7,.bool A6,.string A9,.bool AB,.string AA,.bool AD,.string AC]⟩,.agg ⟨[.bool A5,.string A4,.bool AF,.string AE,.bool AH,.string AG,.bool AO,.string AN,.bool AK,.string AJ]⟩] []=Dg.K C0 BZ BX BW D3 D2 E6 E3 CU A2 A3 A8 A7 A6 A9 AB AA AD AC A5 A4 AF AE AH AG AO AN AK AJ (fun r=>some (.tuple ⟨[.agg ⟨[.bool r.1,.string r.2.1,.bool r.2.2.1,.string r.2.2.2.1,.bool r.2.2.2.2.1,.string r.2.2.2.2.2.1,.bool r.2.2.2.2.2.2.1,.string r.2.2.2.2.2.2.2.1,.bool r.2.2.2.2.2.2.2.2.1,.string r.2.2.2.2.2.2.2.2.2.1]⟩,.int .i64 r.2.2.2.2.2.2.2.2.2.2]⟩,[])):=by kernel_rfl
def Dg.o:Option (Bool×ByteArray×Bool×ByteArray×Bool×ByteArray×Bool×ByteArray×Bool×ByteArray×Int):=Dg.K Ae Ae.pre By By.pre Bw Bw.pre Bc Bc.pre Em A2 A3 A8 A7 A6 A9 AB AA AD AC A5 A4 AF AE AH AG AO AN AK AJ some
def Dg.pre:Bool:=(Dg.o A2 A3 A8 A7 A6 A9 AB AA AD AC A5 A4 AF AE AH AG AO AN AK AJ).isSome
def Dg:Bool×ByteArray×Bool×ByteArray×Bool×ByteArray×Bool×ByteArray×Bool×ByteArray×Int:=(Dg.o A2 A3 A8 A7 A6 A9 AB AA AD AC A5 A4 AF AE AH AG AO AN AK AJ).getD default
theorem Dg.nat (k:Bool×ByteArray×Bool×ByteArray×Bool×ByteArray×Bool×ByteArray×Bool×ByteArray×Int→Option R):Dg.K C0 BZ BX BW D3 D2 E6 E3 CU A2 A3 A8 A7 A6 A9 AB AA AD AC A5 A4 AF AE AH AG AO AN AK AJ k=(Dg.K C0 BZ BX BW D3 D2 E6 E3 CU A2 A3 A8 A7 A6 A9 AB AA AD AC A5 A4 AF AE AH AG AO AN AK AJ some).bind k:=by
 simp only [Dg.K,bcond,Option.bind_some,Option.bind_none]
end
def Q.nul (y:Q):Bool:=y.c0==0&&y.c1==0&&y.c2==0&&y.c3==0
def qDiv (x y:Q):Q×Int:=bif x.ok&&y.ok then (bif y.nul then (Q.zero,10) else (qdiv x y,0)) else (Q.zero,1)
def C51 (r:Q×Int):Bool×ByteArray×Bool×ByteArray×Bool×ByteArray×Bool×ByteArray×Bool×ByteArray×Int:=((dI r.1.c0).1,(dI r.1.c0).2,(dI r.1.c1).1,(dI r.1.c1).2,(dI r.1.c2).1,(dI r.1.c2).2,(dI r.1.c3).1,(dI r.1.c3).2,(dI r.1.d).1,(dI r.1.d).2,r.2)
theorem Mr (e:Int):C51 (Q.zero,e)=(false,(⟨#[]⟩:ByteArray),false,⟨#[]⟩,false,⟨#[]⟩,false,⟨#[]⟩,false,⟨#[]⟩,e):=by simp only [C51,Q.zero,M0]
theorem QX {y:Q} (h:y.ok=true) (hn:y.nul=true):y=qof 0:=by
 obtain ⟨h1,h2⟩:=Q.ok_d h
 simp only [Q.nul,Bool.and_eq_true,beq_iff_eq] at hn
 obtain ⟨⟨⟨e0,e1⟩,e2⟩,e3⟩:=hn
 obtain ⟨c0,c1,c2,c3,d⟩:=y
 simp only at e0 e1 e2 e3 h1
 subst e0 e1 e2 e3
 have:(Q.mk 0 0 0 0 d).g=(d.natAbs:Int):=by
  show gg 0 0 0 0 d=_
  unfold gg
  simp
 rw [this] at h2
 have:d=1:=by omega
 subst this; rfl
theorem cj1_c0 (y:Q):(cj1 y).c0=y.c0:=rfl
theorem cj1_c1 (y:Q):(cj1 y).c1= -y.c1:=rfl
theorem cj1_c2 (y:Q):(cj1 y).c2=y.c2:=rfl
theorem cj1_c3 (y:Q):(cj1 y).c3= -y.c3:=rfl
theorem cj2_c0 (y:Q):(cj2 y).c0=y.c0:=rfl
theorem cj2_c1 (y:Q):(cj2 y).c1=y.c1:=rfl
theorem cj2_c2 (y:Q):(cj2 y).c2= -y.c2:=rfl
theorem cj2_c3 (y:Q):(cj2 y).c3= -y.c3:=rfl
theorem cj1_d (y:Q):(cj1 y).d=y.d:=rfl
theorem cj2_d (y:Q):(cj2 y).d=y.d:=rfl
theorem Dg.os {j k:Nat} {x y:Q} (hx:x.Bd j) (hy:y.Bd k) (hk:1≤k) (hj:j+7*k+35≤PRM):Dg.o (dI x.c0).1 (dI x.c0).2 (dI x.c1).1 (dI x.c1).2 (dI x.c2).1 (dI x.c2).2 (dI x.c3).1 (dI x.c3).2 (dI x.d).1 (dI x.d).2 (dI y.c0).1 (dI y.c0).2 (dI y.c1).1 (dI y.c1).2 (dI y.c2).1 (dI y.c2).2 (dI y.c3).1 (dI y.c3).2 (dI y.d).1 (dI y.d).2=some (C51 (qDiv x y)):=by
 have hL:j≤LIM:=by unfold LIM; unfold PRM at hj; omega
 have hM:k≤LIM:=by unfold LIM; unfold PRM at hj; omega
 have v1:=Ae.ps hx hL
 have v2:=Ae.es hx hL
 have v3:=Ae.ps hy hM
 have v4:=Ae.es hy hM
 cases ox:x.ok with
 | false=>
  rw [ox] at v2
  simp only [Dg.o,Dg.K,v1,v2,qDiv,ox,Bool.not_false,cond_true,Bool.false_and,cond_false,Mr]
 |true=>
 rw [ox] at v2
 cases oy:y.ok with
 | false=>
  rw [oy] at v4
  simp only [Dg.o,Dg.K,v1,v2,v3,v4,qDiv,ox,oy,Bool.not_true,Bool.not_false,cond_true,Bool.and_false,cond_false,Mr]
 |true=>
 rw [oy] at v4
 have o1:=By.ps (n:=0) (by decide) (by decide)
 have o2:=By.es (n:=0) (by decide) (by decide)
 have hnl:((y.c0==0)&&((y.c1==0)&&((y.c2==0)&&(y.c3==0)))&&(y.d==1))=y.nul:=by
  cases hn:y.nul with
  |true=>rw [QX oy hn]; rfl
  | false=>
   simp only [Q.nul] at hn
   revert hn
   cases y.c0==0<;>cases y.c1==0<;>cases y.c2==0<;>cases y.c3==0<;>simp
 have e0:∀(a:Int),((dI a).1==(dI 0).1&&(dI a).2.toList==(dI 0).2.toList)=(a==0):=fun a=>Kh a 0
 simp only [C5] at o2
 cases hn:y.nul with
 | true=>
  rw [hn] at hnl
  simp only [Dg.o,Dg.K,v1,v2,v3,v4,qDiv,ox,oy,o1,o2,Kh,hnl,hn,Bool.not_true,Bool.and_self,cond_true,cond_false,Mr]
 |false=>
 rw [hn] at hnl
 have hnz:¬(y.c0=0∧y.c1=0∧y.c2=0∧y.c3=0):=by
  rintro ⟨h0,h1,h2,h3⟩
  simp [Q.nul,h0,h1,h2,h3] at hn
 have oa:(cj2 y).ok=true:=by rw [LL,oy]
 have ba:=Ss hy
 have ot:=IG oy
 have bt:(qtwo y).Bd (2*k+5):=(Gl hy ba oy oa).mono (by omega)
 have ob:(cj1 (qtwo y)).ok=true:=by rw [KD,ot]
 have bb:=Su bt
 have on:=Ne oy
 have bn:(qone y).Bd (4*k+15):=(Gl bt bb ot ob).mono (by omega)
 have oi:=Lm oy hnz
 have bi0:(Q.mk (qone y).d 0 0 0 (qone y).c0).Bd (4*k+15):=⟨bn.d,Bd.zero _,Bd.zero _,Bd.zero _,bn.c0⟩
 have bi:(qinv y).Bd (4*k+15):=No bi0 (Ip oy hnz)
 have p1:=Bw.ps hy ba (by omega) (by omega) (HB oy oa)
 have p1':=Bw.es hy ba (by omega) (by omega) (HB oy oa)
 have p2:=Bw.ps bt bb (by omega) (by omega) (HB ot ob)
 have p2':=Bw.es bt bb (by omega) (by omega) (HB ot ob)
 have l1:=Bc.ps bi0 (by unfold LIM; unfold PRM at hj; omega) (Ip oy hnz)
 have l1':=Bc.es bi0 (by unfold LIM; unfold PRM at hj; omega) (Ip oy hnz)
 have p3:=Bw.ps hx ba (by omega) (by omega) (HB ox oa)
 have p3':=Bw.es hx ba (by omega) (by omega) (HB ox oa)
 have p4:=Bw.ps bb bi (by omega) (by omega) (HB ob oi)
 have p4':=Bw.es bb bi (by omega) (by omega) (HB ob oi)
 have b3:(qmul x (cj2 y)).Bd (j+k+5):=Gl hx ba ox oa
 have b4:(qmul (cj1 (qtwo y)) (qinv y)).Bd (6*k+25):=(Gl bb bi ob oi).mono (by omega)
 have o3:(qmul x (cj2 y)).ok=true:=Fm ox oa
 have o4:(qmul (cj1 (qtwo y)) (qinv y)).ok=true:=Fm ob oi
 have p5:=Bw.ps b3 b4 (by omega) (by omega) (HB o3 o4)
 have p5':=Bw.es b3 b4 (by omega) (by omega) (HB o3 o4)
 change _=C5 (qtwo y) at p1'
 change _=C5 (qone y) at p2'
 change _=C5 (qinv y) at l1'
 change _=C5 (qmul x (cj2 y)) at p3'
 change _=C5 (qmul (cj1 (qtwo y)) (qinv y)) at p4'
 change _=C5 (qdiv x y) at p5'
 have z1:(false:Bool)=(dI 0).1:=rfl
 have z2:(⟨#[]⟩:ByteArray)=(dI 0).2:=rfl
 simp only [C5,cj2_c0,cj2_c1,cj2_c2,cj2_c3,cj2_d] at p1' p1 p3 p3'
 simp only [C5,cj1_c0,cj1_c1,cj1_c2,cj1_c3,cj1_d] at p2 p2' p4 p4'
 simp only [C5] at l1 l1' p5 p5'
 simp only [←z1,←z2] at l1 l1'
 simp only [Dg.o,Dg.K,v1,v2,v3,v4,qDiv,ox,oy,o1,o2,Kh,hnl,hn,Bool.not_true,Bool.and_self,cond_false,cond_true,IV,p1,p1',p2,p2',l1,l1',p3,p3',p4,p4',p5,p5',C51]
theorem Dg.ps {j k:Nat} {x y:Q} (hx:x.Bd j) (hy:y.Bd k) (hk:1≤k) (hj:j+7*k+35≤PRM):Dg.pre (dI x.c0).1 (dI x.c0).2 (dI x.c1).1 (dI x.c1).2 (dI x.c2).1 (dI x.c2).2 (dI x.c3).1 (dI x.c3).2 (dI x.d).1 (dI x.d).2 (dI y.c0).1 (dI y.c0).2 (dI y.c1).1 (dI y.c1).2 (dI y.c2).1 (dI y.c2).2 (dI y.c3).1 (dI y.c3).2 (dI y.d).1 (dI y.d).2=true:=Ey (Dg.os hx hy hk hj)
theorem Dg.es {j k:Nat} {x y:Q} (hx:x.Bd j) (hy:y.Bd k) (hk:1≤k) (hj:j+7*k+35≤PRM):Dg (dI x.c0).1 (dI x.c0).2 (dI x.c1).1 (dI x.c1).2 (dI x.c2).1 (dI x.c2).2 (dI x.c3).1 (dI x.c3).2 (dI x.d).1 (dI x.d).2 (dI y.c0).1 (dI y.c0).2 (dI y.c1).1 (dI y.c1).2 (dI y.c2).1 (dI y.c2).2 (dI y.c3).1 (dI y.c3).2 (dI y.d).1 (dI y.d).2=C51 (qDiv x y):=Fq (Dg.os hx hy hk hj)
theorem Dg.ok:SOK Tryz.prog 72 (Dg.sp Dg Dg.pre):=by
 refine Cq (E:=⟨[(68,Ae.sp Ae Ae.pre),(73,By.sp By By.pre),(100,Bw.sp Bw Bw.pre),(103,Bc.sp Bc Bc.pre),(126,Em.sp Em)],[(104,Tryz.f104)],[]⟩) (L:=[]) ⟨(Aa Ae.ok (Aa By.ok (Aa Bw.ok (Aa Bc.ok (Aa Em.ok Ac))))),(Ex ⟨Tryz.func104,by decide,rfl⟩ Ai),Ad,Ah⟩ 60 Tryz.func72 (by decide) rfl Bs fun vs bl v bl' h=> ?_
 unfold Dg.sp at h
 split at h
 ·rename_i A2 A3 A8 A7 A6 A9 AB AA AD AC A5 A4 AF AE AH AG AO AN AK AJ
  simp only [Option.some.injEq,Prod.mk.injEq] at h
  obtain ⟨hp,rfl,rfl⟩:=h
  have hr:=Dg.run Ae Ae.pre By By.pre Bw Bw.pre Bc Bc.pre Em A2 A3 A8 A7 A6 A9 AB AA AD AC A5 A4 AF AE AH AG AO AN AK AJ
  rw [Dg.nat] at hr
  obtain ⟨r,h2⟩:=Option.isSome_iff_exists.1 (hp:(Dg.o A2 A3 A8 A7 A6 A9 AB AA AD AC A5 A4 AF AE AH AG AO AN AK AJ).isSome=true)
  have h3:Dg A2 A3 A8 A7 A6 A9 AB AA AD AC A5 A4 AF AE AH AG AO AN AK AJ=r:=by unfold Dg; rw [h2]; rfl
  have h4:Dg.K Ae Ae.pre By By.pre Bw Bw.pre Bc Bc.pre Em A2 A3 A8 A7 A6 A9 AB AA AD AC A5 A4 AF AE AH AG AO AN AK AJ some=some r:=h2
  rw [h4,Option.bind_some] at hr
  rw [h3]
  exact ⟨hr,by simp [okV,Nat.blt],clo_spec 8 _ (by kernel_rfl),As (by kernel_rfl)⟩
 ·cases h
end Go.Proofs.YtphlckkbihmlnaaGreatDoor.G
end
section
namespace Go.Proofs.YtphlckkbihmlnaaGreatDoor.G
set_option maxRecDepth 100000
open Go Go.Proofs RX
structure DqF where
 fO:Int→(TY5)
 pO:Int→Bool
 fC:TF10 Int
 pC:TF10 Bool
structure Nc where
 (n0:Bool) (s0:ByteArray) (n1:Bool) (s1:ByteArray) (n2:Bool) (s2:ByteArray) (n3:Bool) (s3:ByteArray) (n4:Bool) (s4:ByteArray)
noncomputable abbrev DqF.env (F:DqF):Env:=⟨[(73,By.sp F.fO F.pO),(74,Cr.sp F.fC F.pC)],[],[]⟩
noncomputable abbrev dq.code:Code:=Ag Tryz.f31 0
noncomputable abbrev dq.ex (F:DqF):=exec (R:=X×List Value×List (Option Blk)) Tryz.prog F.env [] (hs Tryz.prog F.env 9).lf (hs Tryz.prog F.env 9).cf dq.code
noncomputable abbrev dq.st (n b:Int) (x y q:Nc):St:=⟨gbuild [(2,.pointer (some ⟨0,0,none⟩)),(4,.pointer (some ⟨32,0,none⟩)),(6,.pointer (some ⟨192,0,none⟩)),(8,.int .i64 n),(9,.int .i64 b)] 0 75,[(0,.cs [.bool x.n0,.string x.s0,.bool x.n1,.string x.s1,.bool x.n2,.string x.s2,.bool x.n3,.string x.s3,.bool x.n4,.string x.s4] 27),(16,.cs [.bool y.n0,.string y.s0,.bool y.n1,.string y.s1,.bool y.n2,.string y.s2,.bool y.n3,.string y.s3,.bool y.n4,.string y.s4] 27),(32,.cs [.int .i64 0,.int .i64 0] 33),(192,.cs [.bool q.n0,.string q.s0,.bool q.n1,.string q.s1,.bool q.n2,.string q.s2,.bool q.n3,.string q.s3,.bool q.n4,.string q.s4] 27)],368⟩
abbrev dq.pk:=pick 75 [2,4,6,8,9] [0,16,32,192]
abbrev dq.lk:=RX.lk [2,4,6,8,9] [0,16,32,192]
abbrev dqs (m:Int):Int:=IntKind.i64.wrap (m*m)
def dqp (F:DqF) (m:Int) (q:Nc):Bool:=F.pC (F.fO m).1 (F.fO m).2.1 (F.fO m).2.2.1 (F.fO m).2.2.2.1 (F.fO m).2.2.2.2.1 (F.fO m).2.2.2.2.2.1 (F.fO m).2.2.2.2.2.2.1 (F.fO m).2.2.2.2.2.2.2.1 (F.fO m).2.2.2.2.2.2.2.2.1 (F.fO m).2.2.2.2.2.2.2.2.2 q.n0 q.s0 q.n1 q.s1 q.n2 q.s2 q.n3 q.s3 q.n4 q.s4
def dqc (F:DqF) (m:Int) (q:Nc):Int:=F.fC (F.fO m).1 (F.fO m).2.1 (F.fO m).2.2.1 (F.fO m).2.2.2.1 (F.fO m).2.2.2.2.1 (F.fO m).2.2.2.2.2.1 (F.fO m).2.2.2.2.2.2.1 (F.fO m).2.2.2.2.2.2.2.1 (F.fO m).2.2.2.2.2.2.2.2.1 (F.fO m).2.2.2.2.2.2.2.2.2 q.n0 q.s0 q.n1 q.s1 q.n2 q.s2 q.n3 q.s3 q.n4 q.s4
abbrev hf (b:Int):Int:=b.fdiv (2^min (Int.toNat 1) IntKind.i64.bits)
theorem dq.rnd (F:DqF) (n b:Int) (x y q:Nc):dq.ex F (dq.st n b x y q) dq.pk=
 bif decide (b>0) then bif decide (IntKind.i64.wrap (n+b)<2147483648) then bif F.pO (dqs (IntKind.i64.wrap (n+b))) then bif dqp F (dqs (IntKind.i64.wrap (n+b))) q then bif decide (dqc F (dqs (IntKind.i64.wrap (n+b))) q≤0) then dq.lk .normal (dq.st (IntKind.i64.wrap (n+b)) (hf b) x y q) else dq.lk .normal (dq.st n (hf b) x y q) else none else none else dq.lk .normal (dq.st n (hf b) x y q) else dq.lk (.exit 0) (dq.st n b x y q):=by kernel_rfl
def bq (k:Nat):Int:=((2^k:Nat):Int)/2
theorem Kq (k:Nat):bq (k+1)=((2^k:Nat):Int):=by
 unfold bq
 rw [Nat.pow_succ]
 omega
theorem bq_half (k:Nat):hf (bq (k+1))=bq k:=by
 unfold hf
 rw [Kq]
 show (((2^k:Nat):Int)).fdiv 2=bq k
 rw [Int.fdiv_eq_ediv_of_nonneg _ (by omega)]
 rfl
theorem bq_le {k:Nat} (h:k≤32):0≤bq k∧bq k≤2147483648:=by
 have:2^k≤2^32:=Nat.pow_le_pow_right (by omega) h
 unfold bq
 generalize 2^k=m at*
 omega
def dqb (T:Int→Bool):Nat→Int→Int
 |0,n=>n
 |k+1,n=>dqb T k (bif decide (n+bq (k+1)<2147483648) then bif T (n+bq (k+1)) then n+bq (k+1) else n else n)
def dqT (F:DqF) (q:Nc) (m:Int):Bool:=decide (dqc F (m*m) q≤0)
def DqOk (F:DqF) (q:Nc):Prop:=∀m:Int,0≤m→m<2147483648→F.pO (m*m)=true∧dqp F (m*m) q=true
noncomputable def dqOk (F:DqF) (q:Nc):Bool:= @decide (DqOk F q) (Classical.propDecidable _)
theorem P3 {F:DqF} {q:Nc} :dqOk F q=true↔DqOk F q:=by unfold dqOk; exact @decide_eq_true_iff _ (Classical.propDecidable _)
theorem Q5 {m:Int} (h:0≤m) (h':m<2147483648):IntKind.i64.wrap (m*m)=m*m:=by
 have:m*m≤2147483647*2147483647:=Int.mul_le_mul (by omega) (by omega) h (by omega)
 have h0:0≤m*m:=Int.mul_nonneg h h
 exact w64 (by omega) (by omega)
theorem dq.lp (F:DqF) {N:Nat→Prop} (hE:EnvOk Tryz.prog F.env) (x y q:Nc) (h:DqOk F q):∀(k:Nat) (n:Int),k≤32→0≤n→n<2147483648→Lq Tryz.prog N dq.code (dq.st n (bq k) x y q) (.exit 0) (dq.st (dqb (dqT F q) k n) 0 x y q)
 |0,n,hk,h0,h1=> .end (f:=9) hE Ba (dq.rnd F n 0 x y q) (fun q=>by cases q) rfl
 | k + 1,n,hk,h0,h1=>by
  have hb:=bq_le (k:=k+1) hk
  have hp:0<bq (k+1):=by rw [Kq]; have:=Nat.two_pow_pos k; omega
  have hw:IntKind.i64.wrap (n+bq (k+1))=n+bq (k+1):=w64 (by omega) (by omega)
  have hh:hf (bq (k+1))=bq k:=bq_half k
  have hr:=dq.rnd F n (bq (k+1)) x y q
  rw [hw,hh,decide_eq_true (show bq (k+1)>0 from hp),cond_true] at hr
  unfold dqb
  by_cases hm:n+bq (k+1)<2147483648
  ·rw [decide_eq_true hm,cond_true,dqs,Q5 (by omega) hm,(h _ (by omega) hm).1,(h _ (by omega) hm).2,cond_true,cond_true] at hr
   rw [decide_eq_true hm,cond_true]
   unfold dqT
   cases hd:decide (dqc F ((n+bq (k+1))*(n+bq (k+1))) q≤0) with
   | true=>
    rw [hd,cond_true] at hr
    rw [cond_true]
    exact .to (f:=9) hE Ba hr rfl (dq.lp F hE x y q h k _ (by omega) (by omega) hm)
   | false=>
    rw [hd,cond_false] at hr
    rw [cond_false]
    exact .to (f:=9) hE Ba hr rfl (dq.lp F hE x y q h k _ (by omega) h0 h1)
  ·rw [decide_eq_false hm,cond_false] at hr
   rw [decide_eq_false hm,cond_false]
   exact .to (f:=9) hE Ba hr rfl (dq.lp F hE x y q h k _ (by omega) h0 h1)
noncomputable def dq.lt (F:DqF) (x y q:Nc):LT:= .got (dqOk F q) (.exit 0) (dq.st (dqb (dqT F q) 32 0) 0 x y q)
theorem dq.enter {N:Nat→Prop} {S S':St} {x':X} {n b:Int} {x y q:Nc} (h2:RX.nth S.tmps 2= .pointer (some ⟨0,0,none⟩)) (h4:RX.nth S.tmps 4= .pointer (some ⟨32,0,none⟩)) (h6:RX.nth S.tmps 6= .pointer (some ⟨192,0,none⟩)) (h8:RX.nth S.tmps 8= .int .i64 n) (h9:RX.nth S.tmps 9= .int .i64 b)
  (g0:RX.look S.heap 0=some (.cs [.bool x.n0,.string x.s0,.bool x.n1,.string x.s1,.bool x.n2,.string x.s2,.bool x.n3,.string x.s3,.bool x.n4,.string x.s4] 27)) (g16:RX.look S.heap 16=some (.cs [.bool y.n0,.string y.s0,.bool y.n1,.string y.s1,.bool y.n2,.string y.s2,.bool y.n3,.string y.s3,.bool y.n4,.string y.s4] 27)) (g32:RX.look S.heap 32=some (.cs [.int .i64 0,.int .i64 0] 33)) (g192:RX.look S.heap 192=some (.cs [.bool q.n0,.string q.s0,.bool q.n1,.string q.s1,.bool q.n2,.string q.s2,.bool q.n3,.string q.s3,.bool q.n4,.string q.s4] 27)) (hl:S.tmps.length=75) (hnx:S.nxt=368) (hk:Lq Tryz.prog N dq.code (dq.st n b x y q) x' S'):Lq Tryz.prog N dq.code S x' S':=by
 obtain ⟨T,H,n⟩:=S
 subst hnx
 exact .enter (fun h=>Gc hl (.cons ⟨h2,bnth h h2⟩ (.cons ⟨h4,bnth h h4⟩ (.cons ⟨h6,bnth h h6⟩ (.cons ⟨h8,bnth h h8⟩ (.cons ⟨h9,bnth h h9⟩ .nil))))) (.cons ⟨g0,bname h g0,rfl⟩ (.cons ⟨g16,bname h g16,rfl⟩ (.cons ⟨g32,bname h g32,rfl⟩ (.cons ⟨g192,bname h g192,rfl⟩ .nil))))) hk
noncomputable def dq.t (F:DqF):LSpec:=fun S=>match RX.nth S.tmps 2,RX.nth S.tmps 4,RX.nth S.tmps 6,RX.nth S.tmps 8,RX.nth S.tmps 9,RX.look S.heap 0,RX.look S.heap 16,RX.look S.heap 32,RX.look S.heap 192 with
 | .pointer (some ⟨0,0,none⟩),.pointer (some ⟨32,0,none⟩),.pointer (some ⟨192,0,none⟩),.int .i64 n,.int .i64 b,some (.cs [.bool xn0,.string xs0,.bool xn1,.string xs1,.bool xn2,.string xs2,.bool xn3,.string xs3,.bool xn4,.string xs4] 27),some (.cs [.bool yn0,.string ys0,.bool yn1,.string ys1,.bool yn2,.string ys2,.bool yn3,.string ys3,.bool yn4,.string ys4] 27),some (.cs [.int .i64 0,.int .i64 0] 33),some (.cs [.bool qn0,.string qs0,.bool qn1,.string qs1,.bool qn2,.string qs2,.bool qn3,.string qs3,.bool qn4,.string qs4] 27)=>bif Nat.beq S.tmps.length 75&&Nat.beq S.nxt 368&&ieq n 0&&ieq b 2147483648 then some (dq.lt F ⟨xn0,xs0,xn1,xs1,xn2,xs2,xn3,xs3,xn4,xs4⟩ ⟨yn0,ys0,yn1,ys1,yn2,ys2,yn3,ys3,yn4,ys4⟩ ⟨qn0,qs0,qn1,qs1,qn2,qs2,qn3,qs3,qn4,qs4⟩) else none
 |_,_,_,_,_,_,_,_,_=>none
theorem dq.lok (F:DqF) {N:Nat→Prop} (hE:EnvOk Tryz.prog F.env):LOKn Tryz.prog N dq.code (dq.t F):=by
 refine GO fun S lt x' S' ht hat=> ?_
 unfold dq.t at ht
 split at ht
 ·rename_i n b xn0 xs0 xn1 xs1 xn2 xs2 xn3 xs3 xn4 xs4 yn0 ys0 yn1 ys1 yn2 ys2 yn3 ys3 yn4 ys4 qn0 qs0 qn1 qs1 qn2 qs2 qn3 qs3 qn4 qs4 h2 h4 h6 h8 h9 g0 g16 g32 g192
  cases hb:Nat.beq S.tmps.length 75&&Nat.beq S.nxt 368&&ieq n 0&&ieq b 2147483648 with
  |false=>rw [hb] at ht; cases ht
  | true=>
   rw [hb] at ht
   injection ht with ht
   subst ht
   rw [Bool.and_eq_true,Bool.and_eq_true,Bool.and_eq_true] at hb
   obtain ⟨⟨⟨hb,hnx⟩,e1⟩,e2⟩:=hb
   have e1:=H9.1 e1
   have e2:=H9.1 e2
   subst e1 e2
   have hb:=Nat.eq_of_beq_eq_true hb
   have hnx:=Nat.eq_of_beq_eq_true hnx
   unfold dq.lt LT.at at hat
   cases ho:dqOk F ⟨qn0,qs0,qn1,qs1,qn2,qs2,qn3,qs3,qn4,qs4⟩ with
   |false=>rw [ho] at hat; cases hat
   | true=>
    rw [ho] at hat
    injection hat with hat
    injection hat with hx hs
    subst hx hs
    exact dq.enter (x:=⟨xn0,xs0,xn1,xs1,xn2,xs2,xn3,xs3,xn4,xs4⟩) (y:=⟨yn0,ys0,yn1,ys1,yn2,ys2,yn3,ys3,yn4,ys4⟩) (q:=⟨qn0,qs0,qn1,qs1,qn2,qs2,qn3,qs3,qn4,qs4⟩) h2 h4 h6 h8 h9 g0 g16 g32 g192 hb hnx (dq.lp F hE _ _ _ (P3.1 ho) 32 0 (by omega) (by omega) (by omega))
 ·cases ht
end Go.Proofs.YtphlckkbihmlnaaGreatDoor.G
end
