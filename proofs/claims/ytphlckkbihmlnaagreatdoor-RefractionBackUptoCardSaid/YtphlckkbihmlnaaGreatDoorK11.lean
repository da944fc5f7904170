/- A part of what the law's proof leans on. PACKED BY pack.py of this repo. -/
import Derived.Test.YtphlckkbihmlnaaGreatDoorK10
set_option linter.unusedVariables false
set_option linter.unusedSimpArgs false
set_option linter.unusedSectionVars false
set_option linter.defProp false
set_option maxRecDepth 100000
open Go.IntKind (i64 u64 u32)
section
namespace Go.Proofs.YtphlckkbihmlnaaGreatDoor.G
open Go Go.Proofs Go.RowKit RX
def Dv.K {R:Type} (a0:Int) (a1:Int) (a2:Int) (k:(Int)→R):R:=
 bif a0==a1 then k (a0) else bif a1==0 then k (a0) else bif a0==0 then k (a1) else k (i64.wrap (a0*a2))
theorem Dv.run (a0:Int) (a1:Int) (a2:Int):xfn Tryz.prog ⟨[],[],[]⟩ [] 60 Tryz.f107 [.int .i64 a0,.int .i64 a1,.int .i64 a2] []=Dv.K a0 a1 a2 (fun r=>some (.int .i64 r,[])):=by kernel_rfl
def Dv (a0:Int) (a1:Int) (a2:Int):Int:=Dv.K a0 a1 a2 id
theorem Dv.nat {R:Type} (a0:Int) (a1:Int) (a2:Int) (k:(Int)→R):Dv.K a0 a1 a2 k=k (Dv.K a0 a1 a2 id):=by
 simp only [Dv.K,acond k,id_eq]
theorem Dv.es {a b s:Int} (ha:a= -1∨a=0∨a=1) (hs:s= -1∨s=0∨s=1):Dv a b s=mix a b s:=by
 simp only [Dv,Dv.K,id_eq,mix]
 by_cases h1:a=b
 ·rw [if_pos (.inl h1),h1]; simp
 ·rw [Fa h1]
  by_cases h2:b=0
  ·rw [if_pos (.inr h2),h2]; rfl
  ·rw [Fa h2,if_neg (fun h=>h.elim h1 h2)]
   by_cases h3:a=0
   ·rw [if_pos h3,h3]; rfl
   ·rw [Fa h3,if_neg h3]
    rcases ha with rfl|rfl|rfl<;>rcases hs with rfl|rfl|rfl<;>rfl
theorem Dv.ok:SOK Tryz.prog 107 (Dv.sp Dv):=by
 refine Cu (E:=⟨[],[],[]⟩) (L:=[]) ⟨Ac,Ai,Ad,Ah⟩ 60 Tryz.func107 (by decide) rfl Bv fun vs bl v bl' h=> ?_
 unfold Dv.sp at h
 split at h
 ·rename_i a0 a1 a2
  simp only [zS,zP,true_and] at h
  obtain ⟨rfl,rfl⟩:=h
  refine ⟨?_,by simp [okV,Nat.blt],clo_spec 8 _ (by kernel_rfl),Ay (by kernel_rfl)⟩
  refine (Dv.run a0 a1 a2).trans ?_
  refine (Dv.nat a0 a1 a2 _).trans ?_
  kernel_rfl
 ·cases h
section
variable {R:Type} (CY:Int→(Bool×ByteArray)) (CW:Int→Bool) (CT:Bool→ByteArray→Bool→ByteArray→(Bool×ByteArray)) (CS:Bool→ByteArray→Bool→ByteArray→Bool) (a0:Int) (A5:Bool) (A4:ByteArray) (AJ:Bool) (AK:ByteArray)
def Bs.K (k:Bool×ByteArray→Option R):Option R:=
 let t0:=CW a0
 bif t0 then
 let t1:=CS A5 A4 AJ AK
 bif t1 then
 let t2:=CY a0
 let t3:=CT A5 A4 AJ AK
 let t4:=CS t2.1 t2.2 t3.1 t3.2
 bif t4 then
 let t5:=CT t2.1 t2.2 t3.1 t3.2
 k (t5.1,t5.2) else none else none else none
theorem Bs.run:xfn Tryz.prog ⟨[(99,Dh.sp CY CW),(102,Ch.sp CT CS)],[],[]⟩ [] 60 Tryz.f109 [.int .i64 a0,.agg ⟨[.bool A5,.string A4]⟩,.agg ⟨[.bool AJ,.string AK]⟩] []=Bs.K CY CW CT CS a0 A5 A4 AJ AK (fun r=>some (.agg ⟨[.bool r.1,.string r.2]⟩,[])):=by kernel_rfl
def Bs.o:Option (Bool×ByteArray):=Bs.K Dh Dh.pre Ch Ch.pre a0 A5 A4 AJ AK some
def Bs.pre:Bool:=(Bs.o a0 A5 A4 AJ AK).isSome
def Bs:Bool×ByteArray:=(Bs.o a0 A5 A4 AJ AK).getD default
theorem Bs.nat (k:Bool×ByteArray→Option R):Bs.K CY CW CT CS a0 A5 A4 AJ AK k=(Bs.K CY CW CT CS a0 A5 A4 AJ AK some).bind k:=by
 simp only [Bs.K,bcond,Option.bind_some,Option.bind_none]
theorem Bs.os {j k:Nat} {q a b:Int} (hq:Few6 q) (ha:Bd j a) (hb:Bd k b) (hj:j≤PRM) (hk:k≤PRM):Bs.o q (dI a).1 (dI a).2 (dI b).1 (dI b).2=some (dI (q*(a*b))):=by
 have h1:Dh.pre q=true:=by rcases hq with rfl|rfl|rfl|rfl<;>rfl
 unfold PRM at hj hk
 have h2:=K2 ha hb (by unfold LIM; omega) (by unfold LIM; omega)
 have h3:=K2 (Hu hq) (ha.mul hb) (by unfold LIM; omega) (by unfold LIM; omega)
 simp only [Bs.o,Bs.K,h1,h2,PM,Gj,h3,cond_true]
theorem Bs.ps {j k:Nat} {q a b:Int} (hq:Few6 q) (ha:Bd j a) (hb:Bd k b) (hj:j≤PRM) (hk:k≤PRM):Bs.pre q (dI a).1 (dI a).2 (dI b).1 (dI b).2=true:=Fk (Bs.os hq ha hb hj hk)
theorem Bs.es {j k:Nat} {q a b:Int} (hq:Few6 q) (ha:Bd j a) (hb:Bd k b) (hj:j≤PRM) (hk:k≤PRM):Bs q (dI a).1 (dI a).2 (dI b).1 (dI b).2=dI (q*(a*b)):=GT (Bs.os hq ha hb hj hk)
end
theorem Bs.ok:SOK Tryz.prog 109 (Bs.sp Bs Bs.pre):=by
 refine Cu (E:=⟨[(99,Dh.sp Dh Dh.pre),(102,Ch.sp Ch Ch.pre)],[],[]⟩) (L:=[]) ⟨(Aa Dh.ok (Aa Ch.ok Ac)),Ai,Ad,Ah⟩ 60 Tryz.func109 (by decide) rfl Bv fun vs bl v bl' h=> ?_
 unfold Bs.sp at h
 split at h
 ·rename_i a0 A5 A4 AJ AK
  simp only [zS,zP] at h
  obtain ⟨hp,rfl,rfl⟩:=h
  have hr:=Bs.run Dh Dh.pre Ch Ch.pre a0 A5 A4 AJ AK
  rw [Bs.nat] at hr
  obtain ⟨r,h2⟩:=Option.isSome_iff_exists.1 (hp:(Bs.o a0 A5 A4 AJ AK).isSome=true)
  have h3:Bs a0 A5 A4 AJ AK=r:=by unfold Bs; rw [h2]; rfl
  have h4:Bs.K Dh Dh.pre Ch Ch.pre a0 A5 A4 AJ AK some=some r:=h2
  rw [h4,Option.bind_some] at hr
  rw [h3]
  exact ⟨hr,by simp [okV,Nat.blt],clo_spec 8 _ (by kernel_rfl),Ay (by kernel_rfl)⟩
 ·cases h
section
variable {R:Type} (D4:Bool→ByteArray→(Int)) (CT:Bool→ByteArray→Bool→ByteArray→(Bool×ByteArray)) (CS:Bool→ByteArray→Bool→ByteArray→Bool) (DY:Int→Int→Int→(Int)) (DV:Int→Bool→ByteArray→Bool→ByteArray→(Bool×ByteArray)) (DU:Int→Bool→ByteArray→Bool→ByteArray→Bool) (GE:Bool→ByteArray→Bool→ByteArray→(Int)) (GC:Bool→ByteArray→Bool→ByteArray→Bool) (A2:Bool) (A3:ByteArray) (A5:Bool) (A4:ByteArray)
def Ct.K (k:(Int)→Option R):Option R:=
 let t0:=CS A2 A3 A2 A3
 bif t0 then
 let t1:=DU 2 A5 A4 A5 A4
 bif t1 then
 let t2:=CT A2 A3 A2 A3
 let t3:=DV 2 A5 A4 A5 A4
 let t4:=GC t2.1 t2.2 t3.1 t3.2
 bif t4 then
 let t5:=D4 A2 A3
 let t6:=D4 A5 A4
 let t7:=GE t2.1 t2.2 t3.1 t3.2
 let t8:=DY t5 t6 t7
 k (t8) else none else none else none
theorem Ct.run:xfn Tryz.prog ⟨[(97,Eu.sp D4),(102,Ch.sp CT CS),(107,Dv.sp DY),(109,Bs.sp DV DU),(129,Fs.sp GE GC)],[],[]⟩ [] 60 Tryz.f106 [.agg ⟨[.bool A2,.string A3]⟩,.agg ⟨[.bool A5,.string A4]⟩] []=Ct.K D4 CT CS DY DV DU GE GC A2 A3 A5 A4 (fun r=>some (.int .i64 r,[])):=by kernel_rfl
def Ct.o:Option (Int):=Ct.K Eu Ch Ch.pre Dv Bs Bs.pre Fs Fs.pre A2 A3 A5 A4 some
def Ct.pre:Bool:=(Ct.o A2 A3 A5 A4).isSome
def Ct:Int:=(Ct.o A2 A3 A5 A4).getD default
theorem Ct.nat (k:(Int)→Option R):Ct.K D4 CT CS DY DV DU GE GC A2 A3 A5 A4 k=(Ct.K D4 CT CS DY DV DU GE GC A2 A3 A5 A4 some).bind k:=by
 simp only [Ct.K,bcond,Option.bind_some,Option.bind_none]
theorem Ct.os {j k:Nat} {a b:Int} (ha:Bd j a) (hb:Bd k b) (hj:j≤PRM) (hk:k≤PRM):Ct.o (dI a).1 (dI a).2 (dI b).1 (dI b).2=some (sg2 a b):=by
 have f2:Few6 2:= .inr (.inl rfl)
 have p1:=Bs.ps f2 hb hb hk hk
 have p2:=Bs.es f2 hb hb hk hk
 unfold PRM at hj hk
 have h2:=K2 ha ha (by unfold LIM; omega) (by unfold LIM; omega)
 have h3:=cmp_pre (ha.mul ha) ((Hu f2).mul (hb.mul hb)) (by unfold LIM; omega) (by unfold LIM; omega)
 simp only [Ct.o,Ct.K,h2,p1,p2,Gj,h3,Hy,Na,cond_true,Dv.es (IM _) (IM _)]
 rfl
theorem Ct.ps {j k:Nat} {a b:Int} (ha:Bd j a) (hb:Bd k b) (hj:j≤PRM) (hk:k≤PRM):Ct.pre (dI a).1 (dI a).2 (dI b).1 (dI b).2=true:=Fk (Ct.os ha hb hj hk)
theorem Ct.es {j k:Nat} {a b:Int} (ha:Bd j a) (hb:Bd k b) (hj:j≤PRM) (hk:k≤PRM):Ct (dI a).1 (dI a).2 (dI b).1 (dI b).2=sg2 a b:=GT (Ct.os ha hb hj hk)
end
theorem Ct.ok:SOK Tryz.prog 106 (Ct.sp Ct Ct.pre):=by
 refine Cu (E:=⟨[(97,Eu.sp Eu),(102,Ch.sp Ch Ch.pre),(107,Dv.sp Dv),(109,Bs.sp Bs Bs.pre),(129,Fs.sp Fs Fs.pre)],[],[]⟩) (L:=[]) ⟨(Aa Eu.ok (Aa Ch.ok (Aa Dv.ok (Aa Bs.ok (Aa Fs.ok Ac))))),Ai,Ad,Ah⟩ 60 Tryz.func106 (by decide) rfl Bv fun vs bl v bl' h=> ?_
 unfold Ct.sp at h
 split at h
 ·rename_i A2 A3 A5 A4
  simp only [zS,zP] at h
  obtain ⟨hp,rfl,rfl⟩:=h
  have hr:=Ct.run Eu Ch Ch.pre Dv Bs Bs.pre Fs Fs.pre A2 A3 A5 A4
  rw [Ct.nat] at hr
  obtain ⟨r,h2⟩:=Option.isSome_iff_exists.1 (hp:(Ct.o A2 A3 A5 A4).isSome=true)
  have h3:Ct A2 A3 A5 A4=r:=by unfold Ct; rw [h2]; rfl
  have h4:Ct.K Eu Ch Ch.pre Dv Bs Bs.pre Fs Fs.pre A2 A3 A5 A4 some=some r:=h2
  rw [h4,Option.bind_some] at hr
  rw [h3]
  exact ⟨hr,by simp [okV,Nat.blt],clo_spec 8 _ (by kernel_rfl),Ay (by kernel_rfl)⟩
 ·cases h
section
variable {R:Type} (C0:TF5 (Bool)) (BZ:TF5 Bool) (E1:Bool→ByteArray→Bool→ByteArray→(Bool×ByteArray)) (E0:Bool→ByteArray→Bool→ByteArray→Bool) (FE:Bool→ByteArray→Bool→ByteArray→(Int)) (FD:Bool→ByteArray→Bool→ByteArray→Bool) (DY:Int→Int→Int→(Int)) (G6:Bool→ByteArray→Bool→ByteArray→(Bool×ByteArray)) (G4:Bool→ByteArray→Bool→ByteArray→Bool) (DV:Int→Bool→ByteArray→Bool→ByteArray→(Bool×ByteArray)) (DU:Int→Bool→ByteArray→Bool→ByteArray→Bool) (A2:Bool) (A3:ByteArray) (A8:Bool) (A7:ByteArray) (A6:Bool) (A9:ByteArray) (AB:Bool) (AA:ByteArray) (AD:Bool) (AC:ByteArray)
def Cj.K (k:(Int)→Option R):Option R:=
 let t0:=BZ A2 A3 A8 A7 A6 A9 AB AA AD AC
 bif t0 then
 let t1:=C0 A2 A3 A8 A7 A6 A9 AB AA AD AC
 bif !t1 then k (0) else
 let t2:=FD A2 A3 A8 A7
 bif t2 then
 let t3:=FD A6 A9 AB AA
 bif t3 then
 let t4:=FE A2 A3 A8 A7
 let t5:=FE A6 A9 AB AA
 bif t4==t5 then
 let t6:=DY t4 t5 0
 k (t6) else bif t5==0 then
 let t7:=DY t4 t5 0
 k (t7) else bif t4==0 then
 let t8:=DY t4 t5 0
 k (t8) else
 let t9:=DU 1 A2 A3 A2 A3
 bif t9 then
 let t10:=DU 2 A8 A7 A8 A7
 bif t10 then
 let t11:=DV 1 A2 A3 A2 A3
 let t12:=DV 2 A8 A7 A8 A7
 let t13:=E0 t11.1 t11.2 t12.1 t12.2
 bif t13 then
 let t14:=DU 3 A6 A9 A6 A9
 bif t14 then
 let t15:=DU 6 AB AA AB AA
 bif t15 then
 let t16:=DV 3 A6 A9 A6 A9
 let t17:=DV 6 AB AA AB AA
 let t18:=E0 t16.1 t16.2 t17.1 t17.2
 bif t18 then
 let t19:=E1 t11.1 t11.2 t12.1 t12.2
 let t20:=E1 t16.1 t16.2 t17.1 t17.2
 let t21:=G4 t19.1 t19.2 t20.1 t20.2
 bif t21 then
 let t22:=DU 2 A2 A3 A8 A7
 bif t22 then
 let t23:=DU 6 A6 A9 AB AA
 bif t23 then
 let t24:=DV 2 A2 A3 A8 A7
 let t25:=DV 6 A6 A9 AB AA
 let t26:=G4 t24.1 t24.2 t25.1 t25.2
 bif t26 then
 let t27:=G6 t19.1 t19.2 t20.1 t20.2
 let t28:=G6 t24.1 t24.2 t25.1 t25.2
 let t29:=FD t27.1 t27.2 t28.1 t28.2
 bif t29 then
 let t30:=FE t27.1 t27.2 t28.1 t28.2
 let t31:=DY t4 t5 t30
 k (t31) else none else none else none else none else none else none else none else none else none else none else none else none else none else none
theorem Cj.run:xfn Tryz.prog ⟨[(68,Ae.sp C0 BZ),(101,Ed.sp E1 E0),(106,Ct.sp FE FD),(107,Dv.sp DY),(108,Fp.sp G6 G4),(109,Bs.sp DV DU)],[],[]⟩ [] 60 Tryz.f75 [.agg ⟨[.bool A2,.string A3,.bool A8,.string A7,.bool A6,.string A9,.bool AB,.string AA,.bool AD,.string AC]⟩] []=Cj.K C0 BZ E1 E0 FE FD DY G6 G4 DV DU A2 A3 A8 A7 A6 A9 AB AA AD AC (fun r=>some (.int .i64 r,[])):=by kernel_rfl
def Cj.o:Option (Int):=Cj.K Ae Ae.pre Ed Ed.pre Ct Ct.pre Dv Fp Fp.pre Bs Bs.pre A2 A3 A8 A7 A6 A9 AB AA AD AC some
def Cj.pre:Bool:=(Cj.o A2 A3 A8 A7 A6 A9 AB AA AD AC).isSome
def Cj:Int:=(Cj.o A2 A3 A8 A7 A6 A9 AB AA AD AC).getD default
theorem Cj.nat (k:(Int)→Option R):Cj.K C0 BZ E1 E0 FE FD DY G6 G4 DV DU A2 A3 A8 A7 A6 A9 AB AA AD AC k=(Cj.K C0 BZ E1 E0 FE FD DY G6 G4 DV DU A2 A3 A8 A7 A6 A9 AB AA AD AC some).bind k:=by
 simp only [Cj.K,bcond,Option.bind_some,Option.bind_none]
theorem Cj.os {k:Nat} {x:Q} (h:x.Bd k) (hk:2*k+3≤PRM):
  Cj.o (dI x.c0).1 (dI x.c0).2 (dI x.c1).1 (dI x.c1).2 (dI x.c2).1 (dI x.c2).2 (dI x.c3).1 (dI x.c3).2 (dI x.d).1 (dI x.d).2=some (bif x.ok then x.sg else 0):=by
 have hk':k≤PRM:=by omega
 have f1:Few6 1:= .inl rfl
 have f2:Few6 2:= .inr (.inl rfl)
 have f3:Few6 3:= .inr (.inr (.inl rfl))
 have f6:Few6 6:= .inr (.inr (.inr rfl))
 have hL:k≤LIM:=by unfold LIM; unfold PRM at hk'; omega
 have v1:=Ae.ps h hL
 have v2:=Ae.es h hL
 have s1:=Ct.ps h.c0 h.c1 hk' hk'
 have s2:=Ct.es h.c0 h.c1 hk' hk'
 have s3:=Ct.ps h.c2 h.c3 hk' hk'
 have s4:=Ct.es h.c2 h.c3 hk' hk'
 have t1:=Bs.ps f1 h.c0 h.c0 hk' hk'
 have t1':=Bs.es f1 h.c0 h.c0 hk' hk'
 have t2:=Bs.ps f2 h.c1 h.c1 hk' hk'
 have t2':=Bs.es f2 h.c1 h.c1 hk' hk'
 have t3:=Bs.ps f3 h.c2 h.c2 hk' hk'
 have t3':=Bs.es f3 h.c2 h.c2 hk' hk'
 have t4:=Bs.ps f6 h.c3 h.c3 hk' hk'
 have t4':=Bs.es f6 h.c3 h.c3 hk' hk'
 have t5:=Bs.ps f2 h.c0 h.c1 hk' hk'
 have t5':=Bs.es f2 h.c0 h.c1 hk' hk'
 have t6:=Bs.ps f6 h.c2 h.c3 hk' hk'
 have t6':=Bs.es f6 h.c2 h.c3 hk' hk'
 have b1:Bd (2*k+1) (1*(x.c0*x.c0)):=((Hu f1).mul (h.c0.mul h.c0)).mono (by omega)
 have b2:Bd (2*k+1) (2*(x.c1*x.c1)):=((Hu f2).mul (h.c1.mul h.c1)).mono (by omega)
 have b3:Bd (2*k+1) (3*(x.c2*x.c2)):=((Hu f3).mul (h.c2.mul h.c2)).mono (by omega)
 have b4:Bd (2*k+1) (6*(x.c3*x.c3)):=((Hu f6).mul (h.c3.mul h.c3)).mono (by omega)
 have b5:Bd (2*k+1) (2*(x.c0*x.c1)):=((Hu f2).mul (h.c0.mul h.c1)).mono (by omega)
 have b6:Bd (2*k+1) (6*(x.c2*x.c3)):=((Hu f6).mul (h.c2.mul h.c3)).mono (by omega)
 unfold PRM at hk
 have a1:=Oj b1 b2 (by unfold LIM; omega) (by unfold LIM; omega)
 have a2:=Oj b3 b4 (by unfold LIM; omega) (by unfold LIM; omega)
 have a3:=Qb (b1.add b2) (b3.add b4) (by unfold LIM; omega) (by unfold LIM; omega)
 have a4:=Qb b5 b6 (by unfold LIM; omega) (by unfold LIM; omega)
 have d1:Bd (2*k+3) (1*(x.c0*x.c0)+2*(x.c1*x.c1)-(3*(x.c2*x.c2)+6*(x.c3*x.c3))):=(b1.add b2).add (b3.add b4).neg
 have d2:Bd (2*k+3) (2*(x.c0*x.c1)-6*(x.c2*x.c3)):=(b5.add b6.neg).mono (by omega)
 have s5:=Ct.ps d1 d2 (by unfold PRM; omega) (by unfold PRM; omega)
 have s6:=Ct.es d1 d2 (by unfold PRM; omega) (by unfold PRM; omega)
 simp only [Cj.o,Cj.K,v1,v2,s1,s2,s3,s4,t1,t2,t3,t4,t5,t6,t1',t2',t3',t4',t5',t6',a1,a2,a3,a4,Iu,NY,s5,s6,cond_true]
 have m0:Dv (sg2 x.c0 x.c1) (sg2 x.c2 x.c3) 0=mix (sg2 x.c0 x.c1) (sg2 x.c2 x.c3) 0:=Dv.es (Jv _ _) (.inr (.inl rfl))
 have m1:∀s,(s= -1∨s=0∨s=1)→Dv (sg2 x.c0 x.c1) (sg2 x.c2 x.c3) s=mix (sg2 x.c0 x.c1) (sg2 x.c2 x.c3) s:=fun s hs=>Dv.es (Jv _ _) hs
 cases hv:x.ok with
 |false=>rfl
 | true=>
  simp only [zN,cond_false,cond_true,m0,m1 _ (Jv _ _)]
  show _=some (sgz x.c0 x.c1 x.c2 x.c3)
  unfold sgz
  by_cases e1:sg2 x.c0 x.c1=sg2 x.c2 x.c3
  ·rw [if_pos (.inl e1),e1]; simp
  ·rw [Fa e1]
   by_cases e2:sg2 x.c2 x.c3=0
   ·rw [if_pos (.inr (.inl e2)),e2]; rfl
   ·rw [Fa e2]
    by_cases e3:sg2 x.c0 x.c1=0
    ·rw [if_pos (.inr (.inr e3)),e3]; rfl
    ·rw [Fa e3,if_neg (fun h=>h.elim e1 (fun h=>h.elim e2 e3))]; rfl
theorem Cj.ps {k:Nat} {x:Q} (h:x.Bd k) (hk:2*k+3≤PRM):Cj.pre (dI x.c0).1 (dI x.c0).2 (dI x.c1).1 (dI x.c1).2 (dI x.c2).1 (dI x.c2).2 (dI x.c3).1 (dI x.c3).2 (dI x.d).1 (dI x.d).2=true:=Fk (Cj.os h hk)
theorem Cj.es {k:Nat} {x:Q} (h:x.Bd k) (hk:2*k+3≤PRM):Cj (dI x.c0).1 (dI x.c0).2 (dI x.c1).1 (dI x.c1).2 (dI x.c2).1 (dI x.c2).2 (dI x.c3).1 (dI x.c3).2 (dI x.d).1 (dI x.d).2=bif x.ok then x.sg else 0:=GT (Cj.os h hk)
end
theorem Cj.ok:SOK Tryz.prog 75 (Cj.sp Cj Cj.pre):=by
 refine Cu (E:=⟨[(68,Ae.sp Ae Ae.pre),(101,Ed.sp Ed Ed.pre),(106,Ct.sp Ct Ct.pre),(107,Dv.sp Dv),(108,Fp.sp Fp Fp.pre),(109,Bs.sp Bs Bs.pre)],[],[]⟩) (L:=[]) ⟨(Aa Ae.ok (Aa Ed.ok (Aa Ct.ok (Aa Dv.ok (Aa Fp.ok (Aa Bs.ok Ac)))))),Ai,Ad,Ah⟩ 60 Tryz.func75 (by decide) rfl Bv fun vs bl v bl' h=> ?_
 unfold Cj.sp at h
 split at h
 ·rename_i A2 A3 A8 A7 A6 A9 AB AA AD AC
  simp only [zS,zP] at h
  obtain ⟨hp,rfl,rfl⟩:=h
  have hr:=Cj.run Ae Ae.pre Ed Ed.pre Ct Ct.pre Dv Fp Fp.pre Bs Bs.pre A2 A3 A8 A7 A6 A9 AB AA AD AC
  rw [Cj.nat] at hr
  obtain ⟨r,h2⟩:=Option.isSome_iff_exists.1 (hp:(Cj.o A2 A3 A8 A7 A6 A9 AB AA AD AC).isSome=true)
  have h3:Cj A2 A3 A8 A7 A6 A9 AB AA AD AC=r:=by unfold Cj; rw [h2]; rfl
  have h4:Cj.K Ae Ae.pre Ed Ed.pre Ct Ct.pre Dv Fp Fp.pre Bs Bs.pre A2 A3 A8 A7 A6 A9 AB AA AD AC some=some r:=h2
  rw [h4,Option.bind_some] at hr
  rw [h3]
  exact ⟨hr,by simp [okV,Nat.blt],clo_spec 8 _ (by kernel_rfl),Ay (by kernel_rfl)⟩
 ·cases h
section
variable {R:Type} (C0:TF5 (Bool)) (BZ:TF5 Bool) (E1:Bool→ByteArray→Bool→ByteArray→(Bool×ByteArray)) (E0:Bool→ByteArray→Bool→ByteArray→Bool) (CT:Bool→ByteArray→Bool→ByteArray→(Bool×ByteArray)) (CS:Bool→ByteArray→Bool→ByteArray→Bool) (EE:TF5 (TY5)) (EB:TF5 Bool) (A2:Bool) (A3:ByteArray) (A8:Bool) (A7:ByteArray) (A6:Bool) (A9:ByteArray) (AB:Bool) (AA:ByteArray) (AD:Bool) (AC:ByteArray) (A5:Bool) (A4:ByteArray) (AF:Bool) (AE:ByteArray) (AH:Bool) (AG:ByteArray) (AO:Bool) (AN:ByteArray) (AM:Bool) (AL:ByteArray)
def Cw.K (k:TY5→Option R):Option R:=
 let t0:=BZ A2 A3 A8 A7 A6 A9 AB AA AD AC
 bif t0 then
 let t1:=C0 A2 A3 A8 A7 A6 A9 AB AA AD AC
 bif !t1 then k (false,{data:= #[]},false,{data:= #[]},false,{data:= #[]},false,{data:= #[]},false,{data:= #[]}) else
 let t2:=BZ A5 A4 AF AE AH AG AO AN AM AL
 bif t2 then
 let t3:=C0 A5 A4 AF AE AH AG AO AN AM AL
 bif !t3 then k (false,{data:= #[]},false,{data:= #[]},false,{data:= #[]},false,{data:= #[]},false,{data:= #[]}) else
 let t4:=CS A2 A3 AM AL
 bif t4 then
 let t5:=CS A5 A4 AD AC
 bif t5 then
 let t6:=CT A2 A3 AM AL
 let t7:=CT A5 A4 AD AC
 let t8:=E0 t6.1 t6.2 t7.1 t7.2
 bif t8 then
 let t9:=CS A8 A7 AM AL
 bif t9 then
 let t10:=CS AF AE AD AC
 bif t10 then
 let t11:=CT A8 A7 AM AL
 let t12:=CT AF AE AD AC
 let t13:=E0 t11.1 t11.2 t12.1 t12.2
 bif t13 then
 let t14:=CS A6 A9 AM AL
 bif t14 then
 let t15:=CS AH AG AD AC
 bif t15 then
 let t16:=CT A6 A9 AM AL
 let t17:=CT AH AG AD AC
 let t18:=E0 t16.1 t16.2 t17.1 t17.2
 bif t18 then
 let t19:=CS AB AA AM AL
 bif t19 then
 let t20:=CS AO AN AD AC
 bif t20 then
 let t21:=CT AB AA AM AL
 let t22:=CT AO AN AD AC
 let t23:=E0 t21.1 t21.2 t22.1 t22.2
 bif t23 then
 let t24:=CS AD AC AM AL
 bif t24 then
 let t25:=E1 t6.1 t6.2 t7.1 t7.2
 let t26:=E1 t11.1 t11.2 t12.1 t12.2
 let t27:=E1 t16.1 t16.2 t17.1 t17.2
 let t28:=E1 t21.1 t21.2 t22.1 t22.2
 let t29:=CT AD AC AM AL
 let t30:=EB t25.1 t25.2 t26.1 t26.2 t27.1 t27.2 t28.1 t28.2 t29.1 t29.2
 bif t30 then
 let t31:=EE t25.1 t25.2 t26.1 t26.2 t27.1 t27.2 t28.1 t28.2 t29.1 t29.2
 k (t31.1,t31.2.1,t31.2.2.1,t31.2.2.2.1,t31.2.2.2.2.1,t31.2.2.2.2.2.1,t31.2.2.2.2.2.2.1,t31.2.2.2.2.2.2.2.1,t31.2.2.2.2.2.2.2.2.1,t31.2.2.2.2.2.2.2.2.2) else none else none else none else none else none else none else none else none else none else none else none else none else none else none else none else none
theorem Cw.run:xfn Tryz.prog ⟨[(68,Ae.sp C0 BZ),(101,Ed.sp E1 E0),(102,Ch.sp CT CS),(103,Bf.sp EE EB)],[],[]⟩ [] 60 Tryz.f71 [.agg ⟨[.bool A2,.string A3,.bool A8,.string A7,.bool A6,.string A9,.bool AB,.string AA,.bool AD,.string AC]⟩,.agg ⟨[.bool A5,.string A4,.bool AF,.string AE,.bool AH,.string AG,.bool AO,.string AN,.bool AM,.string AL]⟩] []=Cw.K C0 BZ E1 E0 CT CS EE EB A2 A3 A8 A7 A6 A9 AB AA AD AC A5 A4 AF AE AH AG AO AN AM AL (fun r=>some (.agg ⟨[.bool r.1,.string r.2.1,.bool r.2.2.1,.string r.2.2.2.1,.bool r.2.2.2.2.1,.string r.2.2.2.2.2.1,.bool r.2.2.2.2.2.2.1,.string r.2.2.2.2.2.2.2.1,.bool r.2.2.2.2.2.2.2.2.1,.string r.2.2.2.2.2.2.2.2.2]⟩,[])):=by kernel_rfl
def Cw.o:Option (TY5):=Cw.K Ae Ae.pre Ed Ed.pre Ch Ch.pre Bf Bf.pre A2 A3 A8 A7 A6 A9 AB AA AD AC A5 A4 AF AE AH AG AO AN AM AL some
def Cw.pre:Bool:=(Cw.o A2 A3 A8 A7 A6 A9 AB AA AD AC A5 A4 AF AE AH AG AO AN AM AL).isSome
def Cw:TY5:=(Cw.o A2 A3 A8 A7 A6 A9 AB AA AD AC A5 A4 AF AE AH AG AO AN AM AL).getD default
theorem Cw.nat (k:TY5→Option R):Cw.K C0 BZ E1 E0 CT CS EE EB A2 A3 A8 A7 A6 A9 AB AA AD AC A5 A4 AF AE AH AG AO AN AM AL k=(Cw.K C0 BZ E1 E0 CT CS EE EB A2 A3 A8 A7 A6 A9 AB AA AD AC A5 A4 AF AE AH AG AO AN AM AL some).bind k:=by
 simp only [Cw.K,bcond,Option.bind_some,Option.bind_none]
theorem Cw.os {j k:Nat} {x y:Q} (hx:x.Bd j) (hy:y.Bd k) (hj:j≤PRM) (hk:k≤PRM):
  Cw.o (dI x.c0).1 (dI x.c0).2 (dI x.c1).1 (dI x.c1).2 (dI x.c2).1 (dI x.c2).2 (dI x.c3).1 (dI x.c3).2 (dI x.d).1 (dI x.d).2 (dI y.c0).1 (dI y.c0).2 (dI y.c1).1 (dI y.c1).2 (dI y.c2).1 (dI y.c2).2 (dI y.c3).1 (dI y.c3).2 (dI y.d).1 (dI y.d).2=some (C5 (bif x.ok&&y.ok then qadd x y else Q.zero)):=by
 unfold PRM at hj hk
 have hL:j≤LIM:=by unfold LIM; omega
 have hM:k≤LIM:=by unfold LIM; omega
 have v1:=Ae.ps hx hL
 have v2:=Ae.es hx hL
 have v3:=Ae.ps hy hM
 have v4:=Ae.es hy hM
 simp only [Cw.o,Cw.K,v1,v2,v3,v4,cond_true]
 cases ox:x.ok with
 |false=>simp only [Bool.not_false,cond_true,Bool.false_and,cond_false,LK]
 |true=>
 cases oy:y.ok with
 |false=>simp only [zN,Bool.not_false,cond_true,Bool.and_false,cond_false,LK]
 |true=>
 have m:∀ {a b:Int},Bd j a→Bd k b→Ch.pre (dI a).1 (dI a).2 (dI b).1 (dI b).2=true:=fun ha hb=>K2 ha hb hL hM
 have m':∀ {a b:Int},Bd k a→Bd j b→Ch.pre (dI a).1 (dI a).2 (dI b).1 (dI b).2=true:=fun ha hb=>K2 ha hb hM hL
 have ad:∀ {a b c d:Int},Bd j a→Bd k b→Bd k c→Bd j d→Ed.pre (dI (a*b)).1 (dI (a*b)).2 (dI (c*d)).1 (dI (c*d)).2=true:=fun ha hb hc hd=>Oj (ha.mul hb) (hc.mul hd) (by unfold LIM; omega) (by unfold LIM; omega)
 have l1:=Bf.ps (q:=qsum x y) (OB hx hy) (by unfold LIM; omega) (HX ox oy)
 have l2:=Bf.es (q:=qsum x y) (OB hx hy) (by unfold LIM; omega) (HX ox oy)
 simp only [qsum] at l1 l2
 simp only [zN,cond_false,m hx.c0 hy.d,m' hy.c0 hx.d,m hx.c1 hy.d,m' hy.c1 hx.d,m hx.c2 hy.d,m' hy.c2 hx.d,m hx.c3 hy.d,m' hy.c3 hx.d,m hx.d hy.d,Gj,ad hx.c0 hy.d hy.c0 hx.d,ad hx.c1 hy.d hy.c1 hx.d,ad hx.c2 hy.d hy.c2 hx.d,ad hx.c3 hy.d hy.c3 hx.d,Iu,l1,l2,cond_true,Bool.and_self]
 rfl
theorem Cw.ps {j k:Nat} {x y:Q} (hx:x.Bd j) (hy:y.Bd k) (hj:j≤PRM) (hk:k≤PRM):Cw.pre (dI x.c0).1 (dI x.c0).2 (dI x.c1).1 (dI x.c1).2 (dI x.c2).1 (dI x.c2).2 (dI x.c3).1 (dI x.c3).2 (dI x.d).1 (dI x.d).2 (dI y.c0).1 (dI y.c0).2 (dI y.c1).1 (dI y.c1).2 (dI y.c2).1 (dI y.c2).2 (dI y.c3).1 (dI y.c3).2 (dI y.d).1 (dI y.d).2=true:=Fk (Cw.os hx hy hj hk)
theorem Cw.es {j k:Nat} {x y:Q} (hx:x.Bd j) (hy:y.Bd k) (hj:j≤PRM) (hk:k≤PRM):Cw (dI x.c0).1 (dI x.c0).2 (dI x.c1).1 (dI x.c1).2 (dI x.c2).1 (dI x.c2).2 (dI x.c3).1 (dI x.c3).2 (dI x.d).1 (dI x.d).2 (dI y.c0).1 (dI y.c0).2 (dI y.c1).1 (dI y.c1).2 (dI y.c2).1 (dI y.c2).2 (dI y.c3).1 (dI y.c3).2 (dI y.d).1 (dI y.d).2=C5 (bif x.ok&&y.ok then qadd x y else Q.zero):=GT (Cw.os hx hy hj hk)
end
theorem Cw.ok:SOK Tryz.prog 71 (Cw.sp Cw Cw.pre):=by
 refine Cu (E:=⟨[(68,Ae.sp Ae Ae.pre),(101,Ed.sp Ed Ed.pre),(102,Ch.sp Ch Ch.pre),(103,Bf.sp Bf Bf.pre)],[],[]⟩) (L:=[]) ⟨(Aa Ae.ok (Aa Ed.ok (Aa Ch.ok (Aa Bf.ok Ac)))),Ai,Ad,Ah⟩ 60 Tryz.func71 (by decide) rfl Bv fun vs bl v bl' h=> ?_
 unfold Cw.sp at h
 split at h
 ·rename_i A2 A3 A8 A7 A6 A9 AB AA AD AC A5 A4 AF AE AH AG AO AN AM AL
  simp only [zS,zP] at h
  obtain ⟨hp,rfl,rfl⟩:=h
  have hr:=Cw.run Ae Ae.pre Ed Ed.pre Ch Ch.pre Bf Bf.pre A2 A3 A8 A7 A6 A9 AB AA AD AC A5 A4 AF AE AH AG AO AN AM AL
  rw [Cw.nat] at hr
  obtain ⟨r,h2⟩:=Option.isSome_iff_exists.1 (hp:(Cw.o A2 A3 A8 A7 A6 A9 AB AA AD AC A5 A4 AF AE AH AG AO AN AM AL).isSome=true)
  have h3:Cw A2 A3 A8 A7 A6 A9 AB AA AD AC A5 A4 AF AE AH AG AO AN AM AL=r:=by unfold Cw; rw [h2]; rfl
  have h4:Cw.K Ae Ae.pre Ed Ed.pre Ch Ch.pre Bf Bf.pre A2 A3 A8 A7 A6 A9 AB AA AD AC A5 A4 AF AE AH AG AO AN AM AL some=some r:=h2
  rw [h4,Option.bind_some] at hr
  rw [h3]
  exact ⟨hr,by simp [okV,Nat.blt],clo_spec 8 _ (by kernel_rfl),Ay (by kernel_rfl)⟩
 ·cases h
section
variable {R:Type} (C0:TF5 (Bool)) (BZ:TF5 Bool) (CV:Bool→ByteArray→(Bool×ByteArray)) (A2:Bool) (A3:ByteArray) (A8:Bool) (A7:ByteArray) (A6:Bool) (A9:ByteArray) (AB:Bool) (AA:ByteArray) (AD:Bool) (AC:ByteArray)
def Ea.K (k:TY5→Option R):Option R:=
 let t0:=BZ A2 A3 A8 A7 A6 A9 AB AA AD AC
 bif t0 then
 let t1:=C0 A2 A3 A8 A7 A6 A9 AB AA AD AC
 bif !t1 then k (false,{data:= #[]},false,{data:= #[]},false,{data:= #[]},false,{data:= #[]},false,{data:= #[]}) else
 let t2:=CV A2 A3
 let t3:=CV A8 A7
 let t4:=CV A6 A9
 let t5:=CV AB AA
 k (t2.1,t2.2,t3.1,t3.2,t4.1,t4.2,t5.1,t5.2,AD,AC) else none
theorem Ea.run:xfn Tryz.prog ⟨[(68,Ae.sp C0 BZ),(126,Fb.sp CV)],[],[]⟩ [] 60 Tryz.f128 [.agg ⟨[.bool A2,.string A3,.bool A8,.string A7,.bool A6,.string A9,.bool AB,.string AA,.bool AD,.string AC]⟩] []=Ea.K C0 BZ CV A2 A3 A8 A7 A6 A9 AB AA AD AC (fun r=>some (.agg ⟨[.bool r.1,.string r.2.1,.bool r.2.2.1,.string r.2.2.2.1,.bool r.2.2.2.2.1,.string r.2.2.2.2.2.1,.bool r.2.2.2.2.2.2.1,.string r.2.2.2.2.2.2.2.1,.bool r.2.2.2.2.2.2.2.2.1,.string r.2.2.2.2.2.2.2.2.2]⟩,[])):=by kernel_rfl
def Ea.o:Option (TY5):=Ea.K Ae Ae.pre Fb A2 A3 A8 A7 A6 A9 AB AA AD AC some
def Ea.pre:Bool:=(Ea.o A2 A3 A8 A7 A6 A9 AB AA AD AC).isSome
def Ea:TY5:=(Ea.o A2 A3 A8 A7 A6 A9 AB AA AD AC).getD default
theorem Ea.nat (k:TY5→Option R):Ea.K C0 BZ CV A2 A3 A8 A7 A6 A9 AB AA AD AC k=(Ea.K C0 BZ CV A2 A3 A8 A7 A6 A9 AB AA AD AC some).bind k:=by
 simp only [Ea.K,bcond,Option.bind_some,Option.bind_none]
theorem Ea.os {k:Nat} {x:Q} (h:x.Bd k) (hk:k≤PRM):Ea.o (dI x.c0).1 (dI x.c0).2 (dI x.c1).1 (dI x.c1).2 (dI x.c2).1 (dI x.c2).2 (dI x.c3).1 (dI x.c3).2 (dI x.d).1 (dI x.d).2=some (C5 (bif x.ok then qneg x else Q.zero)):=by
 have hL:k≤LIM:=by unfold LIM; unfold PRM at hk; omega
 simp only [Ea.o,Ea.K,Ae.ps h hL,Ae.es h hL,It,cond_true]
 cases x.ok with
 |false=>simp only [Bool.not_false,cond_true,cond_false,LK]
 |true=>rfl
theorem Ea.ps {k:Nat} {x:Q} (h:x.Bd k) (hk:k≤PRM):Ea.pre (dI x.c0).1 (dI x.c0).2 (dI x.c1).1 (dI x.c1).2 (dI x.c2).1 (dI x.c2).2 (dI x.c3).1 (dI x.c3).2 (dI x.d).1 (dI x.d).2=true:=Fk (Ea.os h hk)
theorem Ea.es {k:Nat} {x:Q} (h:x.Bd k) (hk:k≤PRM):Ea (dI x.c0).1 (dI x.c0).2 (dI x.c1).1 (dI x.c1).2 (dI x.c2).1 (dI x.c2).2 (dI x.c3).1 (dI x.c3).2 (dI x.d).1 (dI x.d).2=C5 (bif x.ok then qneg x else Q.zero):=GT (Ea.os h hk)
end
theorem Ea.ok:SOK Tryz.prog 128 (Ea.sp Ea Ea.pre):=by
 refine Cu (E:=⟨[(68,Ae.sp Ae Ae.pre),(126,Fb.sp Fb)],[],[]⟩) (L:=[]) ⟨(Aa Ae.ok (Aa Fb.ok Ac)),Ai,Ad,Ah⟩ 60 Tryz.func128 (by decide) rfl Bv fun vs bl v bl' h=> ?_
 unfold Ea.sp at h
 split at h
 ·rename_i A2 A3 A8 A7 A6 A9 AB AA AD AC
  simp only [zS,zP] at h
  obtain ⟨hp,rfl,rfl⟩:=h
  have hr:=Ea.run Ae Ae.pre Fb A2 A3 A8 A7 A6 A9 AB AA AD AC
  rw [Ea.nat] at hr
  obtain ⟨r,h2⟩:=Option.isSome_iff_exists.1 (hp:(Ea.o A2 A3 A8 A7 A6 A9 AB AA AD AC).isSome=true)
  have h3:Ea A2 A3 A8 A7 A6 A9 AB AA AD AC=r:=by unfold Ea; rw [h2]; rfl
  have h4:Ea.K Ae Ae.pre Fb A2 A3 A8 A7 A6 A9 AB AA AD AC some=some r:=h2
  rw [h4,Option.bind_some] at hr
  rw [h3]
  exact ⟨hr,by simp [okV,Nat.blt],clo_spec 8 _ (by kernel_rfl),Ay (by kernel_rfl)⟩
 ·cases h
section
variable {R:Type} (E3:TF10 (TY5)) (E2:TF10 Bool) (GP:TF5 (TY5)) (GL:TF5 Bool) (A2:Bool) (A3:ByteArray) (A8:Bool) (A7:ByteArray) (A6:Bool) (A9:ByteArray) (AB:Bool) (AA:ByteArray) (AD:Bool) (AC:ByteArray) (A5:Bool) (A4:ByteArray) (AF:Bool) (AE:ByteArray) (AH:Bool) (AG:ByteArray) (AO:Bool) (AN:ByteArray) (AM:Bool) (AL:ByteArray)
def Dw.K (k:TY5→Option R):Option R:=
 let t0:=GL A5 A4 AF AE AH AG AO AN AM AL
 bif t0 then
 let t1:=GP A5 A4 AF AE AH AG AO AN AM AL
 let t2:=E2 A2 A3 A8 A7 A6 A9 AB AA AD AC t1.1 t1.2.1 t1.2.2.1 t1.2.2.2.1 t1.2.2.2.2.1 t1.2.2.2.2.2.1 t1.2.2.2.2.2.2.1 t1.2.2.2.2.2.2.2.1 t1.2.2.2.2.2.2.2.2.1 t1.2.2.2.2.2.2.2.2.2
 bif t2 then
 let t3:=E3 A2 A3 A8 A7 A6 A9 AB AA AD AC t1.1 t1.2.1 t1.2.2.1 t1.2.2.2.1 t1.2.2.2.2.1 t1.2.2.2.2.2.1 t1.2.2.2.2.2.2.1 t1.2.2.2.2.2.2.2.1 t1.2.2.2.2.2.2.2.2.1 t1.2.2.2.2.2.2.2.2.2
 k (t3.1,t3.2.1,t3.2.2.1,t3.2.2.2.1,t3.2.2.2.2.1,t3.2.2.2.2.2.1,t3.2.2.2.2.2.2.1,t3.2.2.2.2.2.2.2.1,t3.2.2.2.2.2.2.2.2.1,t3.2.2.2.2.2.2.2.2.2) else none else none
theorem Dw.run:xfn Tryz.prog ⟨[(71,Cw.sp E3 E2),(128,Ea.sp GP GL)],[],[]⟩ [] 60 Tryz.f105 [.agg ⟨[.bool A2,.string A3,.bool A8,.string A7,.bool A6,.string A9,.bool AB,.string AA,.bool AD,.string AC]⟩,.agg ⟨[.bool A5,.string A4,.bool AF,.string AE,.bool AH,.string AG,.bool AO,.string AN,.bool AM,.string AL]⟩] []=Dw.K E3 E2 GP GL A2 A3 A8 A7 A6 A9 AB AA AD AC A5 A4 AF AE AH AG AO AN AM AL (fun r=>some (.agg ⟨[.bool r.1,.string r.2.1,.bool r.2.2.1,.string r.2.2.2.1,.bool r.2.2.2.2.1,.string r.2.2.2.2.2.1,.bool r.2.2.2.2.2.2.1,.string r.2.2.2.2.2.2.2.1,.bool r.2.2.2.2.2.2.2.2.1,.string r.2.2.2.2.2.2.2.2.2]⟩,[])):=by kernel_rfl
def Dw.o:Option (TY5):=Dw.K Cw Cw.pre Ea Ea.pre A2 A3 A8 A7 A6 A9 AB AA AD AC A5 A4 AF AE AH AG AO AN AM AL some
def Dw.pre:Bool:=(Dw.o A2 A3 A8 A7 A6 A9 AB AA AD AC A5 A4 AF AE AH AG AO AN AM AL).isSome
def Dw:TY5:=(Dw.o A2 A3 A8 A7 A6 A9 AB AA AD AC A5 A4 AF AE AH AG AO AN AM AL).getD default
theorem Dw.nat (k:TY5→Option R):Dw.K E3 E2 GP GL A2 A3 A8 A7 A6 A9 AB AA AD AC A5 A4 AF AE AH AG AO AN AM AL k=(Dw.K E3 E2 GP GL A2 A3 A8 A7 A6 A9 AB AA AD AC A5 A4 AF AE AH AG AO AN AM AL some).bind k:=by
 simp only [Dw.K,bcond,Option.bind_some,Option.bind_none]
theorem Dw.os {j k:Nat} {x y:Q} (hx:x.Bd j) (hy:y.Bd k) (hj:j≤PRM) (hk:k≤PRM):Dw.o (dI x.c0).1 (dI x.c0).2 (dI x.c1).1 (dI x.c1).2 (dI x.c2).1 (dI x.c2).2 (dI x.c3).1 (dI x.c3).2 (dI x.d).1 (dI x.d).2 (dI y.c0).1 (dI y.c0).2 (dI y.c1).1 (dI y.c1).2 (dI y.c2).1 (dI y.c2).2 (dI y.c3).1 (dI y.c3).2 (dI y.d).1 (dI y.d).2=some (C5 (bif x.ok&&y.ok then qsub x y else Q.zero)):=by
 have n1:=Ea.ps hy hk
 have n2:=Ea.es hy hk
 cases oy:y.ok with
 | true=>
  rw [oy,cond_true] at n2
  have a1:=Cw.ps hx (OD hy) hj hk
  have a2:=Cw.es hx (OD hy) hj hk
  rw [Kr,oy] at a2
  simp only [Dw.o,Dw.K,n1,n2,C5,a1,a2,cond_true]
  rfl
 | false=>
  rw [oy,cond_false] at n2
  have a1:=Cw.ps hx (II k) hj hk
  have a2:=Cw.es hx (II k) hj hk
  rw [QT] at a2
  simp only [Dw.o,Dw.K,n1,n2,C5,a1,a2,cond_true,Bool.and_false,cond_false]
theorem Dw.ps {j k:Nat} {x y:Q} (hx:x.Bd j) (hy:y.Bd k) (hj:j≤PRM) (hk:k≤PRM):Dw.pre (dI x.c0).1 (dI x.c0).2 (dI x.c1).1 (dI x.c1).2 (dI x.c2).1 (dI x.c2).2 (dI x.c3).1 (dI x.c3).2 (dI x.d).1 (dI x.d).2 (dI y.c0).1 (dI y.c0).2 (dI y.c1).1 (dI y.c1).2 (dI y.c2).1 (dI y.c2).2 (dI y.c3).1 (dI y.c3).2 (dI y.d).1 (dI y.d).2=true:=Fk (Dw.os hx hy hj hk)
theorem Dw.es {j k:Nat} {x y:Q} (hx:x.Bd j) (hy:y.Bd k) (hj:j≤PRM) (hk:k≤PRM):Dw (dI x.c0).1 (dI x.c0).2 (dI x.c1).1 (dI x.c1).2 (dI x.c2).1 (dI x.c2).2 (dI x.c3).1 (dI x.c3).2 (dI x.d).1 (dI x.d).2 (dI y.c0).1 (dI y.c0).2 (dI y.c1).1 (dI y.c1).2 (dI y.c2).1 (dI y.c2).2 (dI y.c3).1 (dI y.c3).2 (dI y.d).1 (dI y.d).2=C5 (bif x.ok&&y.ok then qsub x y else Q.zero):=GT (Dw.os hx hy hj hk)
end
theorem Dw.ok:SOK Tryz.prog 105 (Dw.sp Dw Dw.pre):=by
 refine Cu (E:=⟨[(71,Cw.sp Cw Cw.pre),(128,Ea.sp Ea Ea.pre)],[],[]⟩) (L:=[]) ⟨(Aa Cw.ok (Aa Ea.ok Ac)),Ai,Ad,Ah⟩ 60 Tryz.func105 (by decide) rfl Bv fun vs bl v bl' h=> ?_
 unfold Dw.sp at h
 split at h
 ·rename_i A2 A3 A8 A7 A6 A9 AB AA AD AC A5 A4 AF AE AH AG AO AN AM AL
  simp only [zS,zP] at h
  obtain ⟨hp,rfl,rfl⟩:=h
  have hr:=Dw.run Cw Cw.pre Ea Ea.pre A2 A3 A8 A7 A6 A9 AB AA AD AC A5 A4 AF AE AH AG AO AN AM AL
  rw [Dw.nat] at hr
  obtain ⟨r,h2⟩:=Option.isSome_iff_exists.1 (hp:(Dw.o A2 A3 A8 A7 A6 A9 AB AA AD AC A5 A4 AF AE AH AG AO AN AM AL).isSome=true)
  have h3:Dw A2 A3 A8 A7 A6 A9 AB AA AD AC A5 A4 AF AE AH AG AO AN AM AL=r:=by unfold Dw; rw [h2]; rfl
  have h4:Dw.K Cw Cw.pre Ea Ea.pre A2 A3 A8 A7 A6 A9 AB AA AD AC A5 A4 AF AE AH AG AO AN AM AL some=some r:=h2
  rw [h4,Option.bind_some] at hr
  rw [h3]
  exact ⟨hr,by simp [okV,Nat.blt],clo_spec 8 _ (by kernel_rfl),Ay (by kernel_rfl)⟩
 ·cases h
section
variable {R:Type} (EO:TF5 (Int)) (EN:TF5 Bool) (GO:TF10 (TY5)) (GK:TF10 Bool) (A2:Bool) (A3:ByteArray) (A8:Bool) (A7:ByteArray) (A6:Bool) (A9:ByteArray) (AB:Bool) (AA:ByteArray) (AD:Bool) (AC:ByteArray) (A5:Bool) (A4:ByteArray) (AF:Bool) (AE:ByteArray) (AH:Bool) (AG:ByteArray) (AO:Bool) (AN:ByteArray) (AM:Bool) (AL:ByteArray)
def Dc.K (k:(Int)→Option R):Option R:=
 let t0:=GK A2 A3 A8 A7 A6 A9 AB AA AD AC A5 A4 AF AE AH AG AO AN AM AL
 bif t0 then
 let t1:=GO A2 A3 A8 A7 A6 A9 AB AA AD AC A5 A4 AF AE AH AG AO AN AM AL
 let t2:=EN t1.1 t1.2.1 t1.2.2.1 t1.2.2.2.1 t1.2.2.2.2.1 t1.2.2.2.2.2.1 t1.2.2.2.2.2.2.1 t1.2.2.2.2.2.2.2.1 t1.2.2.2.2.2.2.2.2.1 t1.2.2.2.2.2.2.2.2.2
 bif t2 then
 let t3:=EO t1.1 t1.2.1 t1.2.2.1 t1.2.2.2.1 t1.2.2.2.2.1 t1.2.2.2.2.2.1 t1.2.2.2.2.2.2.1 t1.2.2.2.2.2.2.2.1 t1.2.2.2.2.2.2.2.2.1 t1.2.2.2.2.2.2.2.2.2
 k (t3) else none else none
theorem Dc.run:xfn Tryz.prog ⟨[(75,Cj.sp EO EN),(105,Dw.sp GO GK)],[],[]⟩ [] 60 Tryz.f74 [.agg ⟨[.bool A2,.string A3,.bool A8,.string A7,.bool A6,.string A9,.bool AB,.string AA,.bool AD,.string AC]⟩,.agg ⟨[.bool A5,.string A4,.bool AF,.string AE,.bool AH,.string AG,.bool AO,.string AN,.bool AM,.string AL]⟩] []=Dc.K EO EN GO GK A2 A3 A8 A7 A6 A9 AB AA AD AC A5 A4 AF AE AH AG AO AN AM AL (fun r=>some (.int .i64 r,[])):=by kernel_rfl
def Dc.o:Option (Int):=Dc.K Cj Cj.pre Dw Dw.pre A2 A3 A8 A7 A6 A9 AB AA AD AC A5 A4 AF AE AH AG AO AN AM AL some
def Dc.pre:Bool:=(Dc.o A2 A3 A8 A7 A6 A9 AB AA AD AC A5 A4 AF AE AH AG AO AN AM AL).isSome
def Dc:Int:=(Dc.o A2 A3 A8 A7 A6 A9 AB AA AD AC A5 A4 AF AE AH AG AO AN AM AL).getD default
theorem Dc.nat (k:(Int)→Option R):Dc.K EO EN GO GK A2 A3 A8 A7 A6 A9 AB AA AD AC A5 A4 AF AE AH AG AO AN AM AL k=(Dc.K EO EN GO GK A2 A3 A8 A7 A6 A9 AB AA AD AC A5 A4 AF AE AH AG AO AN AM AL some).bind k:=by
 simp only [Dc.K,bcond,Option.bind_some,Option.bind_none]
theorem Dc.os {j k:Nat} {x y:Q} (hx:x.Bd j) (hy:y.Bd k) (h:2*(j+k)+5≤PRM):Dc.o (dI x.c0).1 (dI x.c0).2 (dI x.c1).1 (dI x.c1).2 (dI x.c2).1 (dI x.c2).2 (dI x.c3).1 (dI x.c3).2 (dI x.d).1 (dI x.d).2 (dI y.c0).1 (dI y.c0).2 (dI y.c1).1 (dI y.c1).2 (dI y.c2).1 (dI y.c2).2 (dI y.c3).1 (dI y.c3).2 (dI y.d).1 (dI y.d).2=some (bif x.ok&&y.ok then (qsub x y).sg else 0):=by
 have n1:=Dw.ps hx hy (by omega) (by omega)
 have n2:=Dw.es hx hy (by omega) (by omega)
 cases ho:x.ok&&y.ok with
 | true=>
  rw [ho,cond_true] at n2
  simp only [zB] at ho
  have oq:(qsub x y).ok=true:=JF ho.1 (by rw [Kr]; exact ho.2)
  have bq:(qsub x y).Bd (j+k+1):=MI hx (OD hy) ho.1 (by rw [Kr]; exact ho.2)
  have s1:=Cj.ps bq (by omega)
  have s2:=Cj.es bq (by omega)
  rw [oq] at s2
  simp only [Dc.o,Dc.K,n1,n2,C5,s1,s2,cond_true]
 | false=>
  rw [ho,cond_false] at n2
  have s1:=Cj.ps (II 0) (by omega)
  have s2:=Cj.es (II 0) (by omega)
  rw [QT] at s2
  simp only [Dc.o,Dc.K,n1,n2,C5,s1,s2,cond_true,cond_false]
theorem Dc.ps {j k:Nat} {x y:Q} (hx:x.Bd j) (hy:y.Bd k) (h:2*(j+k)+5≤PRM):Dc.pre (dI x.c0).1 (dI x.c0).2 (dI x.c1).1 (dI x.c1).2 (dI x.c2).1 (dI x.c2).2 (dI x.c3).1 (dI x.c3).2 (dI x.d).1 (dI x.d).2 (dI y.c0).1 (dI y.c0).2 (dI y.c1).1 (dI y.c1).2 (dI y.c2).1 (dI y.c2).2 (dI y.c3).1 (dI y.c3).2 (dI y.d).1 (dI y.d).2=true:=Fk (Dc.os hx hy h)
theorem Dc.es {j k:Nat} {x y:Q} (hx:x.Bd j) (hy:y.Bd k) (h:2*(j+k)+5≤PRM):Dc (dI x.c0).1 (dI x.c0).2 (dI x.c1).1 (dI x.c1).2 (dI x.c2).1 (dI x.c2).2 (dI x.c3).1 (dI x.c3).2 (dI x.d).1 (dI x.d).2 (dI y.c0).1 (dI y.c0).2 (dI y.c1).1 (dI y.c1).2 (dI y.c2).1 (dI y.c2).2 (dI y.c3).1 (dI y.c3).2 (dI y.d).1 (dI y.d).2=bif x.ok&&y.ok then (qsub x y).sg else 0:=GT (Dc.os hx hy h)
end
theorem Dc.ok:SOK Tryz.prog 74 (Dc.sp Dc Dc.pre):=by
 refine Cu (E:=⟨[(75,Cj.sp Cj Cj.pre),(105,Dw.sp Dw Dw.pre)],[],[]⟩) (L:=[]) ⟨(Aa Cj.ok (Aa Dw.ok Ac)),Ai,Ad,Ah⟩ 60 Tryz.func74 (by decide) rfl Bv fun vs bl v bl' h=> ?_
 unfold Dc.sp at h
 split at h
 ·rename_i A2 A3 A8 A7 A6 A9 AB AA AD AC A5 A4 AF AE AH AG AO AN AM AL
  simp only [zS,zP] at h
  obtain ⟨hp,rfl,rfl⟩:=h
  have hr:=Dc.run Cj Cj.pre Dw Dw.pre A2 A3 A8 A7 A6 A9 AB AA AD AC A5 A4 AF AE AH AG AO AN AM AL
  rw [Dc.nat] at hr
  obtain ⟨r,h2⟩:=Option.isSome_iff_exists.1 (hp:(Dc.o A2 A3 A8 A7 A6 A9 AB AA AD AC A5 A4 AF AE AH AG AO AN AM AL).isSome=true)
  have h3:Dc A2 A3 A8 A7 A6 A9 AB AA AD AC A5 A4 AF AE AH AG AO AN AM AL=r:=by unfold Dc; rw [h2]; rfl
  have h4:Dc.K Cj Cj.pre Dw Dw.pre A2 A3 A8 A7 A6 A9 AB AA AD AC A5 A4 AF AE AH AG AO AN AM AL some=some r:=h2
  rw [h4,Option.bind_some] at hr
  rw [h3]
  exact ⟨hr,by simp [okV,Nat.blt],clo_spec 8 _ (by kernel_rfl),Ay (by kernel_rfl)⟩
 ·cases h
section
variable {R:Type} (C0:TF5 (Bool)) (BZ:TF5 Bool) (D6:TF10 (TY5)) (D5:TF10 Bool) (A2:Bool) (A3:ByteArray) (A8:Bool) (A7:ByteArray) (A6:Bool) (A9:ByteArray) (AB:Bool) (AA:ByteArray) (AD:Bool) (AC:ByteArray) (A5:Bool) (A4:ByteArray) (AF:Bool) (AE:ByteArray) (AH:Bool) (AG:ByteArray) (AO:Bool) (AN:ByteArray) (AM:Bool) (AL:ByteArray)
def Cy.K (k:TY5→Option R):Option R:=
 let t0:=BZ A2 A3 A8 A7 A6 A9 AB AA AD AC
 bif t0 then
 let t1:=C0 A2 A3 A8 A7 A6 A9 AB AA AD AC
 bif !t1 then k (false,{data:= #[]},false,{data:= #[]},false,{data:= #[]},false,{data:= #[]},false,{data:= #[]}) else
 let t2:=BZ A5 A4 AF AE AH AG AO AN AM AL
 bif t2 then
 let t3:=C0 A5 A4 AF AE AH AG AO AN AM AL
 bif !t3 then k (false,{data:= #[]},false,{data:= #[]},false,{data:= #[]},false,{data:= #[]},false,{data:= #[]}) else
 let t4:=D5 A2 A3 A8 A7 A6 A9 AB AA AD AC A5 A4 AF AE AH AG AO AN AM AL
 bif t4 then
 let t5:=D6 A2 A3 A8 A7 A6 A9 AB AA AD AC A5 A4 AF AE AH AG AO AN AM AL
 k (t5.1,t5.2.1,t5.2.2.1,t5.2.2.2.1,t5.2.2.2.2.1,t5.2.2.2.2.2.1,t5.2.2.2.2.2.2.1,t5.2.2.2.2.2.2.2.1,t5.2.2.2.2.2.2.2.2.1,t5.2.2.2.2.2.2.2.2.2) else none else none else none
theorem Cy.run:xfn Tryz.prog ⟨[(68,Ae.sp C0 BZ),(100,Cc.sp D6 D5)],[],[]⟩ [] 60 Tryz.f69 [.agg ⟨[.bool A2,.string A3,.bool A8,.string A7,.bool A6,.string A9,.bool AB,.string AA,.bool AD,.string AC]⟩,.agg ⟨[.bool A5,.string A4,.bool AF,.string AE,.bool AH,.string AG,.bool AO,.string AN,.bool AM,.string AL]⟩] []=Cy.K C0 BZ D6 D5 A2 A3 A8 A7 A6 A9 AB AA AD AC A5 A4 AF AE AH AG AO AN AM AL (fun r=>some (.agg ⟨[.bool r.1,.string r.2.1,.bool r.2.2.1,.string r.2.2.2.1,.bool r.2.2.2.2.1,.string r.2.2.2.2.2.1,.bool r.2.2.2.2.2.2.1,.string r.2.2.2.2.2.2.2.1,.bool r.2.2.2.2.2.2.2.2.1,.string r.2.2.2.2.2.2.2.2.2]⟩,[])):=by kernel_rfl
def Cy.o:Option (TY5):=Cy.K Ae Ae.pre Cc Cc.pre A2 A3 A8 A7 A6 A9 AB AA AD AC A5 A4 AF AE AH AG AO AN AM AL some
def Cy.pre:Bool:=(Cy.o A2 A3 A8 A7 A6 A9 AB AA AD AC A5 A4 AF AE AH AG AO AN AM AL).isSome
def Cy:TY5:=(Cy.o A2 A3 A8 A7 A6 A9 AB AA AD AC A5 A4 AF AE AH AG AO AN AM AL).getD default
theorem Cy.nat (k:TY5→Option R):Cy.K C0 BZ D6 D5 A2 A3 A8 A7 A6 A9 AB AA AD AC A5 A4 AF AE AH AG AO AN AM AL k=(Cy.K C0 BZ D6 D5 A2 A3 A8 A7 A6 A9 AB AA AD AC A5 A4 AF AE AH AG AO AN AM AL some).bind k:=by
 simp only [Cy.K,bcond,Option.bind_some,Option.bind_none]
theorem Cy.os {j k:Nat} {x y:Q} (hx:x.Bd j) (hy:y.Bd k) (hj:j≤PRM) (hk:k≤PRM):Cy.o (dI x.c0).1 (dI x.c0).2 (dI x.c1).1 (dI x.c1).2 (dI x.c2).1 (dI x.c2).2 (dI x.c3).1 (dI x.c3).2 (dI x.d).1 (dI x.d).2 (dI y.c0).1 (dI y.c0).2 (dI y.c1).1 (dI y.c1).2 (dI y.c2).1 (dI y.c2).2 (dI y.c3).1 (dI y.c3).2 (dI y.d).1 (dI y.d).2=some (C5 (bif x.ok&&y.ok then qmul x y else Q.zero)):=by
 have hL:j≤LIM:=by unfold LIM; unfold PRM at hj; omega
 have hM:k≤LIM:=by unfold LIM; unfold PRM at hk; omega
 have v1:=Ae.ps hx hL
 have v2:=Ae.es hx hL
 have v3:=Ae.ps hy hM
 have v4:=Ae.es hy hM
 simp only [Cy.o,Cy.K,v1,v2,v3,v4,cond_true]
 cases ox:x.ok with
 |false=>simp only [Bool.not_false,cond_true,Bool.false_and,cond_false,LK]
 |true=>
 cases oy:y.ok with
 |false=>simp only [zN,Bool.not_false,cond_true,Bool.and_false,cond_false,LK]
 |true=>
 have p1:=Cc.ps hx hy hj hk (HX ox oy)
 have p2:=Cc.es hx hy hj hk (HX ox oy)
 simp only [zN,cond_false,p1,p2,cond_true,Bool.and_self]
 rfl
theorem Cy.ps {j k:Nat} {x y:Q} (hx:x.Bd j) (hy:y.Bd k) (hj:j≤PRM) (hk:k≤PRM):Cy.pre (dI x.c0).1 (dI x.c0).2 (dI x.c1).1 (dI x.c1).2 (dI x.c2).1 (dI x.c2).2 (dI x.c3).1 (dI x.c3).2 (dI x.d).1 (dI x.d).2 (dI y.c0).1 (dI y.c0).2 (dI y.c1).1 (dI y.c1).2 (dI y.c2).1 (dI y.c2).2 (dI y.c3).1 (dI y.c3).2 (dI y.d).1 (dI y.d).2=true:=Fk (Cy.os hx hy hj hk)
theorem Cy.es {j k:Nat} {x y:Q} (hx:x.Bd j) (hy:y.Bd k) (hj:j≤PRM) (hk:k≤PRM):Cy (dI x.c0).1 (dI x.c0).2 (dI x.c1).1 (dI x.c1).2 (dI x.c2).1 (dI x.c2).2 (dI x.c3).1 (dI x.c3).2 (dI x.d).1 (dI x.d).2 (dI y.c0).1 (dI y.c0).2 (dI y.c1).1 (dI y.c1).2 (dI y.c2).1 (dI y.c2).2 (dI y.c3).1 (dI y.c3).2 (dI y.d).1 (dI y.d).2=C5 (bif x.ok&&y.ok then qmul x y else Q.zero):=GT (Cy.os hx hy hj hk)
end
theorem Cy.ok:SOK Tryz.prog 69 (Cy.sp Cy Cy.pre):=by
 refine Cu (E:=⟨[(68,Ae.sp Ae Ae.pre),(100,Cc.sp Cc Cc.pre)],[],[]⟩) (L:=[]) ⟨(Aa Ae.ok (Aa Cc.ok Ac)),Ai,Ad,Ah⟩ 60 Tryz.func69 (by decide) rfl Bv fun vs bl v bl' h=> ?_
 unfold Cy.sp at h
 split at h
 ·rename_i A2 A3 A8 A7 A6 A9 AB AA AD AC A5 A4 AF AE AH AG AO AN AM AL
  simp only [zS,zP] at h
  obtain ⟨hp,rfl,rfl⟩:=h
  have hr:=Cy.run Ae Ae.pre Cc Cc.pre A2 A3 A8 A7 A6 A9 AB AA AD AC A5 A4 AF AE AH AG AO AN AM AL
  rw [Cy.nat] at hr
  obtain ⟨r,h2⟩:=Option.isSome_iff_exists.1 (hp:(Cy.o A2 A3 A8 A7 A6 A9 AB AA AD AC A5 A4 AF AE AH AG AO AN AM AL).isSome=true)
  have h3:Cy A2 A3 A8 A7 A6 A9 AB AA AD AC A5 A4 AF AE AH AG AO AN AM AL=r:=by unfold Cy; rw [h2]; rfl
  have h4:Cy.K Ae Ae.pre Cc Cc.pre A2 A3 A8 A7 A6 A9 AB AA AD AC A5 A4 AF AE AH AG AO AN AM AL some=some r:=h2
  rw [h4,Option.bind_some] at hr
  rw [h3]
  exact ⟨hr,by simp [okV,Nat.blt],clo_spec 8 _ (by kernel_rfl),Ay (by kernel_rfl)⟩
 ·cases h
section
variable {R:Type} (C0:TF5 (Bool)) (BZ:TF5 Bool) (BX:Int→(TY5)) (BW:Int→Bool) (D6:TF10 (TY5)) (D5:TF10 Bool) (EE:TF5 (TY5)) (EB:TF5 Bool) (CV:Bool→ByteArray→(Bool×ByteArray)) (A2:Bool) (A3:ByteArray) (A8:Bool) (A7:ByteArray) (A6:Bool) (A9:ByteArray) (AB:Bool) (AA:ByteArray) (AD:Bool) (AC:ByteArray) (A5:Bool) (A4:ByteArray) (AF:Bool) (AE:ByteArray) (AH:Bool) (AG:ByteArray) (AO:Bool) (AN:ByteArray) (AM:Bool) (AL:ByteArray)
def Dq.K (k:Bool×ByteArray×Bool×ByteArray×Bool×ByteArray×Bool×ByteArray×Bool×ByteArray×Int→Option R):Option R:=
 let t0:=BZ A2 A3 A8 A7 A6 A9 AB AA AD AC
 bif t0 then
 let t1:=C0 A2 A3 A8 A7 A6 A9 AB AA AD AC
 bif !t1 then k (false,{data:= #[]},false,{data:= #[]},false,{data:= #[]},false,{data:= #[]},false,{data:= #[]},1) else
 let t2:=BZ A5 A4 AF AE AH AG AO AN AM AL
 bif t2 then
 let t3:=C0 A5 A4 AF AE AH AG AO AN AM AL
 bif !t3 then k (false,{data:= #[]},false,{data:= #[]},false,{data:= #[]},false,{data:= #[]},false,{data:= #[]},1) else
 let t4:=BW 0
 bif t4 then
 let t5:=BX 0
 bif A5==t5.1&&A4.toList==t5.2.1.toList&&(AF==t5.2.2.1&&AE.toList==t5.2.2.2.1.toList&&(AH==t5.2.2.2.2.1&&AG.toList==t5.2.2.2.2.2.1.toList&&(AO==t5.2.2.2.2.2.2.1&&AN.toList==t5.2.2.2.2.2.2.2.1.toList)))&&(AM==t5.2.2.2.2.2.2.2.2.1&&AL.toList==t5.2.2.2.2.2.2.2.2.2.toList) then k (false,{data:= #[]},false,{data:= #[]},false,{data:= #[]},false,{data:= #[]},false,{data:= #[]},10) else
 let t6:=CV AH AG
 let t7:=CV AO AN
 let t8:=D5 A5 A4 AF AE AH AG AO AN AM AL A5 A4 AF AE t6.1 t6.2 t7.1 t7.2 AM AL
 bif t8 then
 let t9:=D6 A5 A4 AF AE AH AG AO AN AM AL A5 A4 AF AE t6.1 t6.2 t7.1 t7.2 AM AL
 let t10:=CV t9.2.2.1 t9.2.2.2.1
 let t11:=CV t9.2.2.2.2.2.2.1 t9.2.2.2.2.2.2.2.1
 let t12:=D5 t9.1 t9.2.1 t9.2.2.1 t9.2.2.2.1 t9.2.2.2.2.1 t9.2.2.2.2.2.1 t9.2.2.2.2.2.2.1 t9.2.2.2.2.2.2.2.1 t9.2.2.2.2.2.2.2.2.1 t9.2.2.2.2.2.2.2.2.2 t9.1 t9.2.1 t10.1 t10.2 t9.2.2.2.2.1 t9.2.2.2.2.2.1 t11.1 t11.2 t9.2.2.2.2.2.2.2.2.1 t9.2.2.2.2.2.2.2.2.2
 bif t12 then
 let t13:=D6 t9.1 t9.2.1 t9.2.2.1 t9.2.2.2.1 t9.2.2.2.2.1 t9.2.2.2.2.2.1 t9.2.2.2.2.2.2.1 t9.2.2.2.2.2.2.2.1 t9.2.2.2.2.2.2.2.2.1 t9.2.2.2.2.2.2.2.2.2 t9.1 t9.2.1 t10.1 t10.2 t9.2.2.2.2.1 t9.2.2.2.2.2.1 t11.1 t11.2 t9.2.2.2.2.2.2.2.2.1 t9.2.2.2.2.2.2.2.2.2
 let t14:=EB t13.2.2.2.2.2.2.2.2.1 t13.2.2.2.2.2.2.2.2.2 false {data:= #[]} false {data:= #[]} false {data:= #[]} t13.1 t13.2.1
 bif t14 then
 let t15:=D5 A2 A3 A8 A7 A6 A9 AB AA AD AC A5 A4 AF AE t6.1 t6.2 t7.1 t7.2 AM AL
 bif t15 then
 let t16:=EE t13.2.2.2.2.2.2.2.2.1 t13.2.2.2.2.2.2.2.2.2 false {data:= #[]} false {data:= #[]} false {data:= #[]} t13.1 t13.2.1
 let t17:=D5 t9.1 t9.2.1 t10.1 t10.2 t9.2.2.2.2.1 t9.2.2.2.2.2.1 t11.1 t11.2 t9.2.2.2.2.2.2.2.2.1 t9.2.2.2.2.2.2.2.2.2 t16.1 t16.2.1 t16.2.2.1 t16.2.2.2.1 t16.2.2.2.2.1 t16.2.2.2.2.2.1 t16.2.2.2.2.2.2.1 t16.2.2.2.2.2.2.2.1 t16.2.2.2.2.2.2.2.2.1 t16.2.2.2.2.2.2.2.2.2
 bif t17 then
 let t18:=D6 A2 A3 A8 A7 A6 A9 AB AA AD AC A5 A4 AF AE t6.1 t6.2 t7.1 t7.2 AM AL
 let t19:=D6 t9.1 t9.2.1 t10.1 t10.2 t9.2.2.2.2.1 t9.2.2.2.2.2.1 t11.1 t11.2 t9.2.2.2.2.2.2.2.2.1 t9.2.2.2.2.2.2.2.2.2 t16.1 t16.2.1 t16.2.2.1 t16.2.2.2.1 t16.2.2.2.2.1 t16.2.2.2.2.2.1 t16.2.2.2.2.2.2.1 t16.2.2.2.2.2.2.2.1 t16.2.2.2.2.2.2.2.2.1 t16.2.2.2.2.2.2.2.2.2
 let t20:=D5 t18.1 t18.2.1 t18.2.2.1 t18.2.2.2.1 t18.2.2.2.2.1 t18.2.2.2.2.2.1 t18.2.2.2.2.2.2.1 t18.2.2.2.2.2.2.2.1 t18.2.2.2.2.2.2.2.2.1 t18.2.2.2.2.2.2.2.2.2 t19.1 t19.2.1 t19.2.2.1 t19.2.2.2.1 t19.2.2.2.2.1 t19.2.2.2.2.2.1 t19.2.2.2.2.2.2.1 t19.2.2.2.2.2.2.2.1 t19.2.2.2.2.2.2.2.2.1 t19.2.2.2.2.2.2.2.2.2
 bif t20 then
 let t21:=D6 t18.1 t18.2.1 t18.2.2.1 t18.2.2.2.1 t18.2.2.2.2.1 t18.2.2.2.2.2.1 t18.2.2.2.2.2.2.1 t18.2.2.2.2.2.2.2.1 t18.2.2.2.2.2.2.2.2.1 t18.2.2.2.2.2.2.2.2.2 t19.1 t19.2.1 t19.2.2.1 t19.2.2.2.1 t19.2.2.2.2.1 t19.2.2.2.2.2.1 t19.2.2.2.2.2.2.1 t19.2.2.2.2.2.2.2.1 t19.2.2.2.2.2.2.2.2.1 t19.2.2.2.2.2.2.2.2.2
 k (t21.1,t21.2.1,t21.2.2.1,t21.2.2.2.1,t21.2.2.2.2.1,t21.2.2.2.2.2.1,t21.2.2.2.2.2.2.1,t21.2.2.2.2.2.2.2.1,t21.2.2.2.2.2.2.2.2.1,t21.2.2.2.2.2.2.2.2.2,0) else none else none else none else none else none else none else none else none else none
theorem Dq.run:xfn Tryz.prog ⟨[(68,Ae.sp C0 BZ),(73,Ce.sp BX BW),(100,Cc.sp D6 D5),(103,Bf.sp EE EB),(126,Fb.sp CV)],[(104,Tryz.f104)],[]⟩ [] 60 Tryz.f72 [.agg ⟨[.bool A2,.string A3,.bool A8,.string A7,.bool A6,.string A9,.bool AB,.string AA,.bool AD,.string AC]⟩,.agg ⟨[.bool A5,.string A4,.bool AF,.string AE,.bool AH,.string AG,.bool AO,.string AN,.bool AM,.string AL]⟩] []=Dq.K C0 BZ BX BW D6 D5 EE EB CV A2 A3 A8 A7 A6 A9 AB AA AD AC A5 A4 AF AE AH AG AO AN AM AL (fun r=>some (.tuple ⟨[.agg ⟨[.bool r.1,.string r.2.1,.bool r.2.2.1,.string r.2.2.2.1,.bool r.2.2.2.2.1,.string r.2.2.2.2.2.1,.bool r.2.2.2.2.2.2.1,.string r.2.2.2.2.2.2.2.1,.bool r.2.2.2.2.2.2.2.2.1,.string r.2.2.2.2.2.2.2.2.2.1]⟩,.int .i64 r.2.2.2.2.2.2.2.2.2.2]⟩,[])):=by kernel_rfl
def Dq.o:Option (Bool×ByteArray×Bool×ByteArray×Bool×ByteArray×Bool×ByteArray×Bool×ByteArray×Int):=Dq.K Ae Ae.pre Ce Ce.pre Cc Cc.pre Bf Bf.pre Fb A2 A3 A8 A7 A6 A9 AB AA AD AC A5 A4 AF AE AH AG AO AN AM AL some
def Dq.pre:Bool:=(Dq.o A2 A3 A8 A7 A6 A9 AB AA AD AC A5 A4 AF AE AH AG AO AN AM AL).isSome
def Dq:Bool×ByteArray×Bool×ByteArray×Bool×ByteArray×Bool×ByteArray×Bool×ByteArray×Int:=(Dq.o A2 A3 A8 A7 A6 A9 AB AA AD AC A5 A4 AF AE AH AG AO AN AM AL).getD default
theorem Dq.nat (k:Bool×ByteArray×Bool×ByteArray×Bool×ByteArray×Bool×ByteArray×Bool×ByteArray×Int→Option R):Dq.K C0 BZ BX BW D6 D5 EE EB CV A2 A3 A8 A7 A6 A9 AB AA AD AC A5 A4 AF AE AH AG AO AN AM AL k=(Dq.K C0 BZ BX BW D6 D5 EE EB CV A2 A3 A8 A7 A6 A9 AB AA AD AC A5 A4 AF AE AH AG AO AN AM AL some).bind k:=by
 simp only [Dq.K,bcond,Option.bind_some,Option.bind_none]
end
def Q.nul (y:Q):Bool:=y.c0==0&&y.c1==0&&y.c2==0&&y.c3==0
def qDiv (x y:Q):Q×Int:=bif x.ok&&y.ok then (bif y.nul then (Q.zero,10) else (qdiv x y,0)) else (Q.zero,1)
def C51 (r:Q×Int):Bool×ByteArray×Bool×ByteArray×Bool×ByteArray×Bool×ByteArray×Bool×ByteArray×Int:=((dI r.1.c0).1,(dI r.1.c0).2,(dI r.1.c1).1,(dI r.1.c1).2,(dI r.1.c2).1,(dI r.1.c2).2,(dI r.1.c3).1,(dI r.1.c3).2,(dI r.1.d).1,(dI r.1.d).2,r.2)
theorem NR (e:Int):C51 (Q.zero,e)=(false,(⟨#[]⟩:ByteArray),false,⟨#[]⟩,false,⟨#[]⟩,false,⟨#[]⟩,false,⟨#[]⟩,e):=by simp only [C51,Q.zero,MS]
theorem R6 {y:Q} (h:y.ok=true) (hn:y.nul=true):y=qof 0:=by
 obtain ⟨h1,h2⟩:=Q.ok_d h
 simp only [Q.nul,zB,beq_iff_eq] at hn
 obtain ⟨⟨⟨e0,e1⟩,e2⟩,e3⟩:=hn
 obtain ⟨c0,c1,c2,c3,d⟩:=y
 simp only at e0 e1 e2 e3 h1
 subst e0 e1 e2 e3
 have:(Q.mk 0 0 0 0 d).g=(d.natAbs:Int):=by
  show gg 0 0 0 0 d=_
  unfold gg
  simp
 rw [this] at h2
 have:d=1:=by omega
 subst this; rfl
theorem cj1_c0 (y:Q):(cj1 y).c0=y.c0:=rfl
theorem cj1_c1 (y:Q):(cj1 y).c1= -y.c1:=rfl
theorem cj1_c2 (y:Q):(cj1 y).c2=y.c2:=rfl
theorem cj1_c3 (y:Q):(cj1 y).c3= -y.c3:=rfl
theorem cj2_c0 (y:Q):(cj2 y).c0=y.c0:=rfl
theorem cj2_c1 (y:Q):(cj2 y).c1=y.c1:=rfl
theorem cj2_c2 (y:Q):(cj2 y).c2= -y.c2:=rfl
theorem cj2_c3 (y:Q):(cj2 y).c3= -y.c3:=rfl
theorem cj1_d (y:Q):(cj1 y).d=y.d:=rfl
theorem cj2_d (y:Q):(cj2 y).d=y.d:=rfl
theorem Dq.os {j k:Nat} {x y:Q} (hx:x.Bd j) (hy:y.Bd k) (hk:1≤k) (hj:j+7*k+35≤PRM):Dq.o (dI x.c0).1 (dI x.c0).2 (dI x.c1).1 (dI x.c1).2 (dI x.c2).1 (dI x.c2).2 (dI x.c3).1 (dI x.c3).2 (dI x.d).1 (dI x.d).2 (dI y.c0).1 (dI y.c0).2 (dI y.c1).1 (dI y.c1).2 (dI y.c2).1 (dI y.c2).2 (dI y.c3).1 (dI y.c3).2 (dI y.d).1 (dI y.d).2=some (C51 (qDiv x y)):=by
 have hL:j≤LIM:=by unfold LIM; unfold PRM at hj; omega
 have hM:k≤LIM:=by unfold LIM; unfold PRM at hj; omega
 have v1:=Ae.ps hx hL
 have v2:=Ae.es hx hL
 have v3:=Ae.ps hy hM
 have v4:=Ae.es hy hM
 cases ox:x.ok with
 | false=>
  rw [ox] at v2
  simp only [Dq.o,Dq.K,v1,v2,qDiv,ox,Bool.not_false,cond_true,Bool.false_and,cond_false,NR]
 |true=>
 rw [ox] at v2
 cases oy:y.ok with
 | false=>
  rw [oy] at v4
  simp only [Dq.o,Dq.K,v1,v2,v3,v4,qDiv,ox,oy,zN,Bool.not_false,cond_true,Bool.and_false,cond_false,NR]
 |true=>
 rw [oy] at v4
 have o1:=Ce.ps (n:=0) (by decide) (by decide)
 have o2:=Ce.es (n:=0) (by decide) (by decide)
 have hnl:((y.c0==0)&&((y.c1==0)&&((y.c2==0)&&(y.c3==0)))&&(y.d==1))=y.nul:=by
  cases hn:y.nul with
  |true=>rw [R6 oy hn]; rfl
  | false=>
   simp only [Q.nul] at hn
   revert hn
   cases y.c0==0<;>cases y.c1==0<;>cases y.c2==0<;>cases y.c3==0<;>simp
 have e0:∀(a:Int),((dI a).1==(dI 0).1&&(dI a).2.toList==(dI 0).2.toList)=(a==0):=fun a=>LA a 0
 simp only [C5] at o2
 cases hn:y.nul with
 | true=>
  rw [hn] at hnl
  simp only [Dq.o,Dq.K,v1,v2,v3,v4,qDiv,ox,oy,o1,o2,LA,hnl,hn,zN,Bool.and_self,cond_true,cond_false,NR]
 |false=>
 rw [hn] at hnl
 have hnz:¬(y.c0=0∧y.c1=0∧y.c2=0∧y.c3=0):=by
  rintro ⟨h0,h1,h2,h3⟩
  simp [Q.nul,h0,h1,h2,h3] at hn
 have oa:(cj2 y).ok=true:=by rw [Lu,oy]
 have ba:=TX hy
 have ot:=Ie oy
 have bt:(qtwo y).Bd (2*k+5):=(H0 hy ba oy oa).mono (by omega)
 have ob:(cj1 (qtwo y)).ok=true:=by rw [Ke,ot]
 have bb:=TY bt
 have on:=OC oy
 have bn:(qone y).Bd (4*k+15):=(H0 bt bb ot ob).mono (by omega)
 have oi:=MH oy hnz
 have bi0:(Q.mk (qone y).d 0 0 0 (qone y).c0).Bd (4*k+15):=⟨bn.d,Bd.zero _,Bd.zero _,Bd.zero _,bn.c0⟩
 have bi:(qinv y).Bd (4*k+15):=OM bi0 (JE oy hnz)
 have p1:=Cc.ps hy ba (by omega) (by omega) (HX oy oa)
 have p1':=Cc.es hy ba (by omega) (by omega) (HX oy oa)
 have p2:=Cc.ps bt bb (by omega) (by omega) (HX ot ob)
 have p2':=Cc.es bt bb (by omega) (by omega) (HX ot ob)
 have l1:=Bf.ps bi0 (by unfold LIM; unfold PRM at hj; omega) (JE oy hnz)
 have l1':=Bf.es bi0 (by unfold LIM; unfold PRM at hj; omega) (JE oy hnz)
 have p3:=Cc.ps hx ba (by omega) (by omega) (HX ox oa)
 have p3':=Cc.es hx ba (by omega) (by omega) (HX ox oa)
 have p4:=Cc.ps bb bi (by omega) (by omega) (HX ob oi)
 have p4':=Cc.es bb bi (by omega) (by omega) (HX ob oi)
 have b3:(qmul x (cj2 y)).Bd (j+k+5):=H0 hx ba ox oa
 have b4:(qmul (cj1 (qtwo y)) (qinv y)).Bd (6*k+25):=(H0 bb bi ob oi).mono (by omega)
 have o3:(qmul x (cj2 y)).ok=true:=Fy ox oa
 have o4:(qmul (cj1 (qtwo y)) (qinv y)).ok=true:=Fy ob oi
 have p5:=Cc.ps b3 b4 (by omega) (by omega) (HX o3 o4)
 have p5':=Cc.es b3 b4 (by omega) (by omega) (HX o3 o4)
 change _=C5 (qtwo y) at p1'
 change _=C5 (qone y) at p2'
 change _=C5 (qinv y) at l1'
 change _=C5 (qmul x (cj2 y)) at p3'
 change _=C5 (qmul (cj1 (qtwo y)) (qinv y)) at p4'
 change _=C5 (qdiv x y) at p5'
 have z1:(false:Bool)=(dI 0).1:=rfl
 have z2:(⟨#[]⟩:ByteArray)=(dI 0).2:=rfl
 simp only [C5,cj2_c0,cj2_c1,cj2_c2,cj2_c3,cj2_d] at p1' p1 p3 p3'
 simp only [C5,cj1_c0,cj1_c1,cj1_c2,cj1_c3,cj1_d] at p2 p2' p4 p4'
 simp only [C5] at l1 l1' p5 p5'
 simp only [←z1,←z2] at l1 l1'
 simp only [Dq.o,Dq.K,v1,v2,v3,v4,qDiv,ox,oy,o1,o2,LA,hnl,hn,zN,Bool.and_self,cond_false,cond_true,It,p1,p1',p2,p2',l1,l1',p3,p3',p4,p4',p5,p5',C51]
theorem Dq.ps {j k:Nat} {x y:Q} (hx:x.Bd j) (hy:y.Bd k) (hk:1≤k) (hj:j+7*k+35≤PRM):Dq.pre (dI x.c0).1 (dI x.c0).2 (dI x.c1).1 (dI x.c1).2 (dI x.c2).1 (dI x.c2).2 (dI x.c3).1 (dI x.c3).2 (dI x.d).1 (dI x.d).2 (dI y.c0).1 (dI y.c0).2 (dI y.c1).1 (dI y.c1).2 (dI y.c2).1 (dI y.c2).2 (dI y.c3).1 (dI y.c3).2 (dI y.d).1 (dI y.d).2=true:=Fk (Dq.os hx hy hk hj)
theorem Dq.es {j k:Nat} {x y:Q} (hx:x.Bd j) (hy:y.Bd k) (hk:1≤k) (hj:j+7*k+35≤PRM):Dq (dI x.c0).1 (dI x.c0).2 (dI x.c1).1 (dI x.c1).2 (dI x.c2).1 (dI x.c2).2 (dI x.c3).1 (dI x.c3).2 (dI x.d).1 (dI x.d).2 (dI y.c0).1 (dI y.c0).2 (dI y.c1).1 (dI y.c1).2 (dI y.c2).1 (dI y.c2).2 (dI y.c3).1 (dI y.c3).2 (dI y.d).1 (dI y.d).2=C51 (qDiv x y):=GT (Dq.os hx hy hk hj)
theorem Dq.ok:SOK Tryz.prog 72 (Dq.sp Dq Dq.pre):=by
 refine Cu (E:=⟨[(68,Ae.sp Ae Ae.pre),(73,Ce.sp Ce Ce.pre),(100,Cc.sp Cc Cc.pre),(103,Bf.sp Bf Bf.pre),(126,Fb.sp Fb)],[(104,Tryz.f104)],[]⟩) (L:=[]) ⟨(Aa Ae.ok (Aa Ce.ok (Aa Cc.ok (Aa Bf.ok (Aa Fb.ok Ac))))),(Fl ⟨Tryz.func104,by decide,rfl⟩ Ai),Ad,Ah⟩ 60 Tryz.func72 (by decide) rfl Bv fun vs bl v bl' h=> ?_
 unfold Dq.sp at h
 split at h
 ·rename_i A2 A3 A8 A7 A6 A9 AB AA AD AC A5 A4 AF AE AH AG AO AN AM AL
  simp only [zS,zP] at h
  obtain ⟨hp,rfl,rfl⟩:=h
  have hr:=Dq.run Ae Ae.pre Ce Ce.pre Cc Cc.pre Bf Bf.pre Fb A2 A3 A8 A7 A6 A9 AB AA AD AC A5 A4 AF AE AH AG AO AN AM AL
  rw [Dq.nat] at hr
  obtain ⟨r,h2⟩:=Option.isSome_iff_exists.1 (hp:(Dq.o A2 A3 A8 A7 A6 A9 AB AA AD AC A5 A4 AF AE AH AG AO AN AM AL).isSome=true)
  have h3:Dq A2 A3 A8 A7 A6 A9 AB AA AD AC A5 A4 AF AE AH AG AO AN AM AL=r:=by unfold Dq; rw [h2]; rfl
  have h4:Dq.K Ae Ae.pre Ce Ce.pre Cc Cc.pre Bf Bf.pre Fb A2 A3 A8 A7 A6 A9 AB AA AD AC A5 A4 AF AE AH AG AO AN AM AL some=some r:=h2
  rw [h4,Option.bind_some] at hr
  rw [h3]
  exact ⟨hr,by simp [okV,Nat.blt],clo_spec 8 _ (by kernel_rfl),Ay (by kernel_rfl)⟩
 ·cases h
end Go.Proofs.YtphlckkbihmlnaaGreatDoor.G
end
section
namespace Go.Proofs.YtphlckkbihmlnaaGreatDoor.G
open Go Go.Proofs RX
structure DqF where
 fO:Int→(TY5)
 pO:Int→Bool
 fC:TF10 Int
 pC:TF10 Bool
structure Nc where
 (n0:Bool) (s0:ByteArray) (n1:Bool) (s1:ByteArray) (n2:Bool) (s2:ByteArray) (n3:Bool) (s3:ByteArray) (n4:Bool) (s4:ByteArray)
noncomputable abbrev DqF.env (F:DqF):Env:=⟨[(73,Ce.sp F.fO F.pO),(74,Dc.sp F.fC F.pC)],[],[]⟩
noncomputable abbrev dq.code:Code:=Ag Tryz.f31 0
noncomputable abbrev dq.ex (F:DqF):=exec (R:=X×List Value×List (Option Blk)) Tryz.prog F.env [] (hs Tryz.prog F.env 9).lf (hs Tryz.prog F.env 9).cf dq.code
noncomputable abbrev dq.st (n b:Int) (x y q:Nc):St:=⟨gbuild [(2,.pointer (some ⟨0,0,none⟩)),(4,.pointer (some ⟨32,0,none⟩)),(6,.pointer (some ⟨192,0,none⟩)),(8,.int .i64 n),(9,.int .i64 b)] 0 75,[(0,.cs [.bool x.n0,.string x.s0,.bool x.n1,.string x.s1,.bool x.n2,.string x.s2,.bool x.n3,.string x.s3,.bool x.n4,.string x.s4] 27),(16,.cs [.bool y.n0,.string y.s0,.bool y.n1,.string y.s1,.bool y.n2,.string y.s2,.bool y.n3,.string y.s3,.bool y.n4,.string y.s4] 27),(32,.cs [.int .i64 0,.int .i64 0] 33),(192,.cs [.bool q.n0,.string q.s0,.bool q.n1,.string q.s1,.bool q.n2,.string q.s2,.bool q.n3,.string q.s3,.bool q.n4,.string q.s4] 27)],368⟩
abbrev dq.pk:=pick 75 [2,4,6,8,9] [0,16,32,192]
abbrev dq.lk:=RX.lk [2,4,6,8,9] [0,16,32,192]
abbrev dqs (m:Int):Int:=i64.wrap (m*m)
def dqp (F:DqF) (m:Int) (q:Nc):Bool:=F.pC (F.fO m).1 (F.fO m).2.1 (F.fO m).2.2.1 (F.fO m).2.2.2.1 (F.fO m).2.2.2.2.1 (F.fO m).2.2.2.2.2.1 (F.fO m).2.2.2.2.2.2.1 (F.fO m).2.2.2.2.2.2.2.1 (F.fO m).2.2.2.2.2.2.2.2.1 (F.fO m).2.2.2.2.2.2.2.2.2 q.n0 q.s0 q.n1 q.s1 q.n2 q.s2 q.n3 q.s3 q.n4 q.s4
def dqc (F:DqF) (m:Int) (q:Nc):Int:=F.fC (F.fO m).1 (F.fO m).2.1 (F.fO m).2.2.1 (F.fO m).2.2.2.1 (F.fO m).2.2.2.2.1 (F.fO m).2.2.2.2.2.1 (F.fO m).2.2.2.2.2.2.1 (F.fO m).2.2.2.2.2.2.2.1 (F.fO m).2.2.2.2.2.2.2.2.1 (F.fO m).2.2.2.2.2.2.2.2.2 q.n0 q.s0 q.n1 q.s1 q.n2 q.s2 q.n3 q.s3 q.n4 q.s4
abbrev hf (b:Int):Int:=b.fdiv (2^min (Int.toNat 1) i64.bits)
theorem dq.rnd (F:DqF) (n b:Int) (x y q:Nc):dq.ex F (dq.st n b x y q) dq.pk=
 bif decide (b>0) then bif decide (i64.wrap (n+b)<2147483648) then bif F.pO (dqs (i64.wrap (n+b))) then bif dqp F (dqs (i64.wrap (n+b))) q then bif decide (dqc F (dqs (i64.wrap (n+b))) q≤0) then dq.lk .normal (dq.st (i64.wrap (n+b)) (hf b) x y q) else dq.lk .normal (dq.st n (hf b) x y q) else none else none else dq.lk .normal (dq.st n (hf b) x y q) else dq.lk (.exit 0) (dq.st n b x y q):=by kernel_rfl
def bq (k:Nat):Int:=((2^k:Nat):Int)/2
theorem LJ (k:Nat):bq (k+1)=((2^k:Nat):Int):=by
 unfold bq
 rw [Nat.pow_succ]
 omega
theorem bq_half (k:Nat):hf (bq (k+1))=bq k:=by
 unfold hf
 rw [LJ]
 show (((2^k:Nat):Int)).fdiv 2=bq k
 rw [Int.fdiv_eq_ediv_of_nonneg _ (by omega)]
 rfl
theorem bq_le {k:Nat} (h:k≤32):0≤bq k∧bq k≤2147483648:=by
 have:2^k≤2^32:=Nat.pow_le_pow_right (by omega) h
 unfold bq
 generalize 2^k=m at*
 omega
def dqb (T:Int→Bool):Nat→Int→Int
 |0,n=>n
 |k+1,n=>dqb T k (bif decide (n+bq (k+1)<2147483648) then bif T (n+bq (k+1)) then n+bq (k+1) else n else n)
def dqT (F:DqF) (q:Nc) (m:Int):Bool:=decide (dqc F (m*m) q≤0)
def DqOk (F:DqF) (q:Nc):Prop:=∀m:Int,0≤m→m<2147483648→F.pO (m*m)=true∧dqp F (m*m) q=true
noncomputable def dqOk (F:DqF) (q:Nc):Bool:= @decide (DqOk F q) (Classical.propDecidable _)
theorem Pc {F:DqF} {q:Nc} :dqOk F q=true↔DqOk F q:=by unfold dqOk; exact @decide_eq_true_iff _ (Classical.propDecidable _)
theorem Qd {m:Int} (h:0≤m) (h':m<2147483648):i64.wrap (m*m)=m*m:=by
 have:m*m≤2147483647*2147483647:=Int.mul_le_mul (by omega) (by omega) h (by omega)
 have h0:0≤m*m:=Int.mul_nonneg h h
 exact w64 (by omega) (by omega)
theorem dq.lp (F:DqF) {N:Nat→Prop} (hE:EnvOk Tryz.prog F.env) (x y q:Nc) (h:DqOk F q):∀(k:Nat) (n:Int),k≤32→0≤n→n<2147483648→Lq Tryz.prog N dq.code (dq.st n (bq k) x y q) (.exit 0) (dq.st (dqb (dqT F q) k n) 0 x y q)
 |0,n,hk,h0,h1=> .end (f:=9) hE Be (dq.rnd F n 0 x y q) (fun q=>by cases q) rfl
 | k + 1,n,hk,h0,h1=>by
  have hb:=bq_le (k:=k+1) hk
  have hp:0<bq (k+1):=by rw [LJ]; have:=Nat.two_pow_pos k; omega
  have hw:i64.wrap (n+bq (k+1))=n+bq (k+1):=w64 (by omega) (by omega)
  have hh:hf (bq (k+1))=bq k:=bq_half k
  have hr:=dq.rnd F n (bq (k+1)) x y q
  rw [hw,hh,decide_eq_true (show bq (k+1)>0 from hp),cond_true] at hr
  unfold dqb
  by_cases hm:n+bq (k+1)<2147483648
  ·rw [decide_eq_true hm,cond_true,dqs,Qd (by omega) hm,(h _ (by omega) hm).1,(h _ (by omega) hm).2,cond_true,cond_true] at hr
   rw [decide_eq_true hm,cond_true]
   unfold dqT
   cases hd:decide (dqc F ((n+bq (k+1))*(n+bq (k+1))) q≤0) with
   | true=>
    rw [hd,cond_true] at hr
    rw [cond_true]
    exact .to (f:=9) hE Be hr rfl (dq.lp F hE x y q h k _ (by omega) (by omega) hm)
   | false=>
    rw [hd,cond_false] at hr
    rw [cond_false]
    exact .to (f:=9) hE Be hr rfl (dq.lp F hE x y q h k _ (by omega) h0 h1)
  ·rw [decide_eq_false hm,cond_false] at hr
   rw [decide_eq_false hm,cond_false]
   exact .to (f:=9) hE Be hr rfl (dq.lp F hE x y q h k _ (by omega) h0 h1)
noncomputable def dq.lt (F:DqF) (x y q:Nc):LT:= .got (dqOk F q) (.exit 0) (dq.st (dqb (dqT F q) 32 0) 0 x y q)
theorem dq.enter {N:Nat→Prop} {S S':St} {x':X} {n b:Int} {x y q:Nc} (h2:RX.nth S.tmps 2= .pointer (some ⟨0,0,none⟩)) (h4:RX.nth S.tmps 4= .pointer (some ⟨32,0,none⟩)) (h6:RX.nth S.tmps 6= .pointer (some ⟨192,0,none⟩)) (h8:RX.nth S.tmps 8= .int .i64 n) (h9:RX.nth S.tmps 9= .int .i64 b)
  (g0:RX.look S.heap 0=some (.cs [.bool x.n0,.string x.s0,.bool x.n1,.string x.s1,.bool x.n2,.string x.s2,.bool x.n3,.string x.s3,.bool x.n4,.string x.s4] 27)) (g16:RX.look S.heap 16=some (.cs [.bool y.n0,.string y.s0,.bool y.n1,.string y.s1,.bool y.n2,.string y.s2,.bool y.n3,.string y.s3,.bool y.n4,.string y.s4] 27)) (g32:RX.look S.heap 32=some (.cs [.int .i64 0,.int .i64 0] 33)) (g192:RX.look S.heap 192=some (.cs [.bool q.n0,.string q.s0,.bool q.n1,.string q.s1,.bool q.n2,.string q.s2,.bool q.n3,.string q.s3,.bool q.n4,.string q.s4] 27)) (hl:S.tmps.length=75) (hnx:S.nxt=368) (hk:Lq Tryz.prog N dq.code (dq.st n b x y q) x' S'):Lq Tryz.prog N dq.code S x' S':=by
 obtain ⟨T,H,n⟩:=S
 subst hnx
 exact .enter (fun h=>Gr hl (.cons ⟨h2,bnth h h2⟩ (.cons ⟨h4,bnth h h4⟩ (.cons ⟨h6,bnth h h6⟩ (.cons ⟨h8,bnth h h8⟩ (.cons ⟨h9,bnth h h9⟩ .nil))))) (.cons ⟨g0,bname h g0,rfl⟩ (.cons ⟨g16,bname h g16,rfl⟩ (.cons ⟨g32,bname h g32,rfl⟩ (.cons ⟨g192,bname h g192,rfl⟩ .nil))))) hk
noncomputable def dq.t (F:DqF):LSpec:=fun S=>match RX.nth S.tmps 2,RX.nth S.tmps 4,RX.nth S.tmps 6,RX.nth S.tmps 8,RX.nth S.tmps 9,RX.look S.heap 0,RX.look S.heap 16,RX.look S.heap 32,RX.look S.heap 192 with
 | .pointer (some ⟨0,0,none⟩),.pointer (some ⟨32,0,none⟩),.pointer (some ⟨192,0,none⟩),.int .i64 n,.int .i64 b,some (.cs [.bool xn0,.string xs0,.bool xn1,.string xs1,.bool xn2,.string xs2,.bool xn3,.string xs3,.bool xn4,.string xs4] 27),some (.cs [.bool yn0,.string ys0,.bool yn1,.string ys1,.bool yn2,.string ys2,.bool yn3,.string ys3,.bool yn4,.string ys4] 27),some (.cs [.int .i64 0,.int .i64 0] 33),some (.cs [.bool qn0,.string qs0,.bool qn1,.string qs1,.bool qn2,.string qs2,.bool qn3,.string qs3,.bool qn4,.string qs4] 27)=>bif Nat.beq S.tmps.length 75&&Nat.beq S.nxt 368&&ieq n 0&&ieq b 2147483648 then some (dq.lt F ⟨xn0,xs0,xn1,xs1,xn2,xs2,xn3,xs3,xn4,xs4⟩ ⟨yn0,ys0,yn1,ys1,yn2,ys2,yn3,ys3,yn4,ys4⟩ ⟨qn0,qs0,qn1,qs1,qn2,qs2,qn3,qs3,qn4,qs4⟩) else none
 |_,_,_,_,_,_,_,_,_=>none
theorem dq.lok (F:DqF) {N:Nat→Prop} (hE:EnvOk Tryz.prog F.env):LOKn Tryz.prog N dq.code (dq.t F):=by
 refine Ge fun S lt x' S' ht hat=> ?_
 unfold dq.t at ht
 split at ht
 ·rename_i n b xn0 xs0 xn1 xs1 xn2 xs2 xn3 xs3 xn4 xs4 yn0 ys0 yn1 ys1 yn2 ys2 yn3 ys3 yn4 ys4 qn0 qs0 qn1 qs1 qn2 qs2 qn3 qs3 qn4 qs4 h2 h4 h6 h8 h9 g0 g16 g32 g192
  cases hb:Nat.beq S.tmps.length 75&&Nat.beq S.nxt 368&&ieq n 0&&ieq b 2147483648 with
  |false=>rw [hb] at ht; cases ht
  | true=>
   rw [hb] at ht
   injection ht with ht
   subst ht
   rw [zB,zB,zB] at hb
   obtain ⟨⟨⟨hb,hnx⟩,e1⟩,e2⟩:=hb
   have e1:=HT.1 e1
   have e2:=HT.1 e2
   subst e1 e2
   have hb:=zE hb
   have hnx:=zE hnx
   unfold dq.lt LT.at at hat
   cases ho:dqOk F ⟨qn0,qs0,qn1,qs1,qn2,qs2,qn3,qs3,qn4,qs4⟩ with
   |false=>rw [ho] at hat; cases hat
   | true=>
    rw [ho] at hat
    injection hat with hat
    injection hat with hx hs
    subst hx hs
    exact dq.enter (x:=⟨xn0,xs0,xn1,xs1,xn2,xs2,xn3,xs3,xn4,xs4⟩) (y:=⟨yn0,ys0,yn1,ys1,yn2,ys2,yn3,ys3,yn4,ys4⟩) (q:=⟨qn0,qs0,qn1,qs1,qn2,qs2,qn3,qs3,qn4,qs4⟩) h2 h4 h6 h8 h9 g0 g16 g32 g192 hb hnx (dq.lp F hE _ _ _ (Pc.1 ho) 32 0 (by omega) (by omega) (by omega))
 ·cases ht
end Go.Proofs.YtphlckkbihmlnaaGreatDoor.G
end
