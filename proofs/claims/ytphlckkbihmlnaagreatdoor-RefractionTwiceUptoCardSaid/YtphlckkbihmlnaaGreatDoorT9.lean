/- A part of what the law's proof leans on. PACKED BY pack.py of this repo. -/
import Derived.Test.YtphlckkbihmlnaaGreatDoorT8
set_option linter.unusedVariables false
set_option linter.unusedSimpArgs false
set_option linter.defProp false
set_option linter.unusedSectionVars false
section
namespace Go.Proofs.YtphlckkbihmlnaaGreatDoor.G
set_option maxRecDepth 100000
open Go Go.Proofs Go.RowKit RX
section
variable {R:Type} (FB:Bool→ByteArray→Bool→ByteArray→(Bool×ByteArray)) (F4:Bool→ByteArray→Bool→ByteArray→Bool) (A2:Bool) (A3:ByteArray) (A8:Bool) (A7:ByteArray) (A6:Bool) (A9:ByteArray) (AB:Bool) (AA:ByteArray) (A5:Bool) (A4:ByteArray)
def Bq.K (k:Bool×ByteArray→Option R):Option R:=
 let t0:=F4 A5 A4 A2 A3
 bif t0 then
 let t1:=FB A5 A4 A2 A3
 let t2:=F4 t1.1 t1.2 A8 A7
 bif t2 then
 let t3:=FB t1.1 t1.2 A8 A7
 let t4:=F4 t3.1 t3.2 A6 A9
 bif t4 then
 let t5:=FB t3.1 t3.2 A6 A9
 let t6:=F4 t5.1 t5.2 AB AA
 bif t6 then
 let t7:=FB t5.1 t5.2 AB AA
 k (t7.1,t7.2) else none else none else none else none
theorem Bq.run:xfn Tryz.prog ⟨[(118,Fe.sp FB F4)],[],[]⟩ [] 60 Tryz.f98 [.agg ⟨[.bool A2,.string A3,.bool A8,.string A7,.bool A6,.string A9,.bool AB,.string AA]⟩,.agg ⟨[.bool A5,.string A4]⟩] []=Bq.K FB F4 A2 A3 A8 A7 A6 A9 AB AA A5 A4 (fun r=>some (.agg ⟨[.bool r.1,.string r.2]⟩,[])):=by kernel_rfl
def Bq.o:Option (Bool×ByteArray):=Bq.K Fe Fe.pre A2 A3 A8 A7 A6 A9 AB AA A5 A4 some
def Bq.pre:Bool:=(Bq.o A2 A3 A8 A7 A6 A9 AB AA A5 A4).isSome
def Bq:Bool×ByteArray:=(Bq.o A2 A3 A8 A7 A6 A9 AB AA A5 A4).getD default
theorem Bq.nat (k:Bool×ByteArray→Option R):Bq.K FB F4 A2 A3 A8 A7 A6 A9 AB AA A5 A4 k=(Bq.K FB F4 A2 A3 A8 A7 A6 A9 AB AA A5 A4 some).bind k:=by
 simp only [Bq.K,bcond,Option.bind_some,Option.bind_none]
theorem Bq.os {k:Nat} {c0 c1 c2 c3 d:Int} (h0:Bd k c0) (h1:Bd k c1) (h2:Bd k c2) (h3:Bd k c3) (hd:Bd k d) (hk:k≤LIM):
  Bq.o (dI c0).1 (dI c0).2 (dI c1).1 (dI c1).2 (dI c2).1 (dI c2).2 (dI c3).1 (dI c3).2 (dI d).1 (dI d).2=some (dI (gg c0 c1 c2 c3 d)):=by
 have g0:=JL (j:=k) hd h0
 have g1:=JL (j:=k) g0 h1
 have g2:=JL (j:=k) g1 h2
 simp only [Bq.o,Bq.K,Mz,Lv hd h0 hk hk,Lv g0 h1 hk hk,Lv g1 h2 hk hk,Lv g2 h3 hk hk,cond_true]
 rfl
theorem Bq.ps {k:Nat} {c0 c1 c2 c3 d:Int} (h0:Bd k c0) (h1:Bd k c1) (h2:Bd k c2) (h3:Bd k c3) (hd:Bd k d) (hk:k≤LIM):
 Bq.pre (dI c0).1 (dI c0).2 (dI c1).1 (dI c1).2 (dI c2).1 (dI c2).2 (dI c3).1 (dI c3).2 (dI d).1 (dI d).2=true:=Ey (Bq.os h0 h1 h2 h3 hd hk)
theorem Bq.es {k:Nat} {c0 c1 c2 c3 d:Int} (h0:Bd k c0) (h1:Bd k c1) (h2:Bd k c2) (h3:Bd k c3) (hd:Bd k d) (hk:k≤LIM):
 Bq (dI c0).1 (dI c0).2 (dI c1).1 (dI c1).2 (dI c2).1 (dI c2).2 (dI c3).1 (dI c3).2 (dI d).1 (dI d).2=dI (gg c0 c1 c2 c3 d):=Fq (Bq.os h0 h1 h2 h3 hd hk)
end
theorem Bq.ok:SOK Tryz.prog 98 (Bq.sp Bq Bq.pre):=by
 refine Cq (E:=⟨[(118,Fe.sp Fe Fe.pre)],[],[]⟩) (L:=[]) ⟨(Aa Fe.ok Ac),Ai,Ad,Ah⟩ 60 Tryz.func98 (by decide) rfl Bs fun vs bl v bl' h=> ?_
 unfold Bq.sp at h
 split at h
 ·rename_i A2 A3 A8 A7 A6 A9 AB AA A5 A4
  simp only [Option.some.injEq,Prod.mk.injEq] at h
  obtain ⟨hp,rfl,rfl⟩:=h
  have hr:=Bq.run Fe Fe.pre A2 A3 A8 A7 A6 A9 AB AA A5 A4
  rw [Bq.nat] at hr
  obtain ⟨r,h2⟩:=Option.isSome_iff_exists.1 (hp:(Bq.o A2 A3 A8 A7 A6 A9 AB AA A5 A4).isSome=true)
  have h3:Bq A2 A3 A8 A7 A6 A9 AB AA A5 A4=r:=by unfold Bq; rw [h2]; rfl
  have h4:Bq.K Fe Fe.pre A2 A3 A8 A7 A6 A9 AB AA A5 A4 some=some r:=h2
  rw [h4,Option.bind_some] at hr
  rw [h3]
  exact ⟨hr,by simp [okV,Nat.blt],clo_spec 8 _ (by kernel_rfl),As (by kernel_rfl)⟩
 ·cases h
section
variable {R:Type} (FS:Bool→ByteArray→Bool→ByteArray→(Bool×ByteArray×Bool×ByteArray×Int)) (FO:Bool→ByteArray→Bool→ByteArray→Bool) (A2:Bool) (A3:ByteArray) (A5:Bool) (A4:ByteArray)
def Cn.K (k:Bool×ByteArray→Option R):Option R:=
 let t0:=FO A2 A3 A5 A4
 bif t0 then
 let t1:=FS A2 A3 A5 A4
 k (t1.1,t1.2.1) else none
theorem Cn.run:xfn Tryz.prog ⟨[(139,Ee.sp FS FO)],[],[]⟩ [] 60 Tryz.f127 [.agg ⟨[.bool A2,.string A3]⟩,.agg ⟨[.bool A5,.string A4]⟩] []=Cn.K FS FO A2 A3 A5 A4 (fun r=>some (.agg ⟨[.bool r.1,.string r.2]⟩,[])):=by kernel_rfl
def Cn.o:Option (Bool×ByteArray):=Cn.K Ee Ee.pre A2 A3 A5 A4 some
def Cn.pre:Bool:=(Cn.o A2 A3 A5 A4).isSome
def Cn:Bool×ByteArray:=(Cn.o A2 A3 A5 A4).getD default
theorem Cn.nat (k:Bool×ByteArray→Option R):Cn.K FS FO A2 A3 A5 A4 k=(Cn.K FS FO A2 A3 A5 A4 some).bind k:=by
 simp only [Cn.K,bcond,Option.bind_some,Option.bind_none]
theorem Cn.os {j k:Nat} {a b:Int} (ha:Bd j a) (hb:Bd k b) (hj:j≤LIM) (hk:k≤LIM) (h0:b≠0) (hd:b∣a):Cn.o (dI a).1 (dI a).2 (dI b).1 (dI b).2=some (dI (a/b)):=by
 simp only [Cn.o,Cn.K,dm_pre ha hb hj hk,LO h0,SW h0 hd,cond_true]
theorem Cn.ps {j k:Nat} {a b:Int} (ha:Bd j a) (hb:Bd k b) (hj:j≤LIM) (hk:k≤LIM) (h0:b≠0) (hd:b∣a):Cn.pre (dI a).1 (dI a).2 (dI b).1 (dI b).2=true:=Ey (Cn.os ha hb hj hk h0 hd)
theorem Cn.es {j k:Nat} {a b:Int} (ha:Bd j a) (hb:Bd k b) (hj:j≤LIM) (hk:k≤LIM) (h0:b≠0) (hd:b∣a):Cn (dI a).1 (dI a).2 (dI b).1 (dI b).2=dI (a/b):=Fq (Cn.os ha hb hj hk h0 hd)
end
theorem Cn.ok:SOK Tryz.prog 127 (Cn.sp Cn Cn.pre):=by
 refine Cq (E:=⟨[(139,Ee.sp Ee Ee.pre)],[],[]⟩) (L:=[]) ⟨(Aa Ee.ok Ac),Ai,Ad,Ah⟩ 60 Tryz.func127 (by decide) rfl Bs fun vs bl v bl' h=> ?_
 unfold Cn.sp at h
 split at h
 ·rename_i A2 A3 A5 A4
  simp only [Option.some.injEq,Prod.mk.injEq] at h
  obtain ⟨hp,rfl,rfl⟩:=h
  have hr:=Cn.run Ee Ee.pre A2 A3 A5 A4
  rw [Cn.nat] at hr
  obtain ⟨r,h2⟩:=Option.isSome_iff_exists.1 (hp:(Cn.o A2 A3 A5 A4).isSome=true)
  have h3:Cn A2 A3 A5 A4=r:=by unfold Cn; rw [h2]; rfl
  have h4:Cn.K Ee Ee.pre A2 A3 A5 A4 some=some r:=h2
  rw [h4,Option.bind_some] at hr
  rw [h3]
  exact ⟨hr,by simp [okV,Nat.blt],clo_spec 8 _ (by kernel_rfl),As (by kernel_rfl)⟩
 ·cases h
section
variable {R:Type} (D1:Bool→ByteArray→(Int)) (DZ:TF5 (Bool×ByteArray)) (E4:TF5 Bool) (CX:Int→(Bool×ByteArray)) (CV:Int→Bool) (CU:Bool→ByteArray→(Bool×ByteArray)) (E1:Bool→ByteArray→Bool→ByteArray→(Bool×ByteArray)) (E0:Bool→ByteArray→Bool→ByteArray→Bool) (A2:Bool) (A3:ByteArray) (A8:Bool) (A7:ByteArray) (A6:Bool) (A9:ByteArray) (AB:Bool) (AA:ByteArray) (A5:Bool) (A4:ByteArray)
def Bc.K (k:TY5→Option R):Option R:=
 let t0:=E4 A2 A3 A8 A7 A6 A9 AB AA A5 A4
 bif t0 then
 let t1:=D1 A5 A4
 bif decide (t1<0) then
 let t2:=CV 1
 bif t2 then
 let t3:=DZ A2 A3 A8 A7 A6 A9 AB AA A5 A4
 let t4:=CU t3.1 t3.2
 let t5:=CX 1
 bif t4.1==t5.1&&t4.2.toList==t5.2.toList then k (A2,A3,A8,A7,A6,A9,AB,AA,A5,A4) else
 let t6:=E0 A2 A3 t4.1 t4.2
 bif t6 then
 let t7:=E0 A8 A7 t4.1 t4.2
 bif t7 then
 let t8:=E0 A6 A9 t4.1 t4.2
 bif t8 then
 let t9:=E0 AB AA t4.1 t4.2
 bif t9 then
 let t10:=E0 A5 A4 t4.1 t4.2
 bif t10 then
 let t11:=E1 A2 A3 t4.1 t4.2
 let t12:=E1 A8 A7 t4.1 t4.2
 let t13:=E1 A6 A9 t4.1 t4.2
 let t14:=E1 AB AA t4.1 t4.2
 let t15:=E1 A5 A4 t4.1 t4.2
 k (t11.1,t11.2,t12.1,t12.2,t13.1,t13.2,t14.1,t14.2,t15.1,t15.2) else none else none else none else none else none else none else
 let t16:=CV 1
 bif t16 then
 let t17:=DZ A2 A3 A8 A7 A6 A9 AB AA A5 A4
 let t18:=CX 1
 bif t17.1==t18.1&&t17.2.toList==t18.2.toList then k (A2,A3,A8,A7,A6,A9,AB,AA,A5,A4) else
 let t19:=E0 A2 A3 t17.1 t17.2
 bif t19 then
 let t20:=E0 A8 A7 t17.1 t17.2
 bif t20 then
 let t21:=E0 A6 A9 t17.1 t17.2
 bif t21 then
 let t22:=E0 AB AA t17.1 t17.2
 bif t22 then
 let t23:=E0 A5 A4 t17.1 t17.2
 bif t23 then
 let t24:=E1 A2 A3 t17.1 t17.2
 let t25:=E1 A8 A7 t17.1 t17.2
 let t26:=E1 A6 A9 t17.1 t17.2
 let t27:=E1 AB AA t17.1 t17.2
 let t28:=E1 A5 A4 t17.1 t17.2
 k (t24.1,t24.2,t25.1,t25.2,t26.1,t26.2,t27.1,t27.2,t28.1,t28.2) else none else none else none else none else none else none else none
theorem Bc.run:xfn Tryz.prog ⟨[(97,Eh.sp D1),(98,Bq.sp DZ E4),(99,Cu.sp CX CV),(126,Em.sp CU),(127,Cn.sp E1 E0)],[],[]⟩ [] 60 Tryz.f103 [.agg ⟨[.bool A2,.string A3,.bool A8,.string A7,.bool A6,.string A9,.bool AB,.string AA]⟩,.agg ⟨[.bool A5,.string A4]⟩] []=Bc.K D1 DZ E4 CX CV CU E1 E0 A2 A3 A8 A7 A6 A9 AB AA A5 A4 (fun r=>some (.agg ⟨[.bool r.1,.string r.2.1,.bool r.2.2.1,.string r.2.2.2.1,.bool r.2.2.2.2.1,.string r.2.2.2.2.2.1,.bool r.2.2.2.2.2.2.1,.string r.2.2.2.2.2.2.2.1,.bool r.2.2.2.2.2.2.2.2.1,.string r.2.2.2.2.2.2.2.2.2]⟩,[])):=by kernel_rfl
def Bc.o:Option (TY5):=Bc.K Eh Bq Bq.pre Cu Cu.pre Em Cn Cn.pre A2 A3 A8 A7 A6 A9 AB AA A5 A4 some
def Bc.pre:Bool:=(Bc.o A2 A3 A8 A7 A6 A9 AB AA A5 A4).isSome
def Bc:TY5:=(Bc.o A2 A3 A8 A7 A6 A9 AB AA A5 A4).getD default
theorem Bc.nat (k:TY5→Option R):Bc.K D1 DZ E4 CX CV CU E1 E0 A2 A3 A8 A7 A6 A9 AB AA A5 A4 k=(Bc.K D1 DZ E4 CX CV CU E1 E0 A2 A3 A8 A7 A6 A9 AB AA A5 A4 some).bind k:=by
 simp only [Bc.K,bcond,Option.bind_some,Option.bind_none]
theorem Bc.os {k:Nat} {q:Q} (h:q.Bd k) (hk:k≤LIM) (hd:q.d≠0):
  Bc.o (dI q.c0).1 (dI q.c0).2 (dI q.c1).1 (dI q.c1).2 (dI q.c2).1 (dI q.c2).2 (dI q.c3).1 (dI q.c3).2 (dI q.d).1 (dI q.d).2=some (C5 (low q)):=by
 have hn:=OI hd
 obtain ⟨d,d0,d1,d2,d3⟩:=M9 q
 have hg:Bd k (sg_ q):=by unfold sg_; split; exact h.g.neg; exact h.g
 have c1:=Bq.ps h.c0 h.c1 h.c2 h.c3 h.d hk
 have c2:=Bq.es h.c0 h.c1 h.c2 h.c3 h.d hk
 have o0:=Cn.es h.c0 hg hk hk hn d0
 have o1:=Cn.es h.c1 hg hk hk hn d1
 have o2:=Cn.es h.c2 hg hk hk hn d2
 have o3:=Cn.es h.c3 hg hk hk hn d3
 have o4:=Cn.es h.d hg hk hk hn d
 have p0:=Cn.ps h.c0 hg hk hk hn d0
 have p1:=Cn.ps h.c1 hg hk hk hn d1
 have p2:=Cn.ps h.c2 hg hk hk hn d2
 have p3:=Cn.ps h.c3 hg hk hk hn d3
 have p4:=Cn.ps h.d hg hk hk hn d
 have hl:low q=⟨q.c0/sg_ q,q.c1/sg_ q,q.c2/sg_ q,q.c3/sg_ q,q.d/sg_ q⟩:=rfl
 have hgq:gg q.c0 q.c1 q.c2 q.c3 q.d=q.g:=rfl
 have h1:sg_ q=1→C5 q=C5 (low q):=fun e=>by rw [hl,e]; simp
 by_cases hneg:q.d<0
 ·have es:sgn q.d<0:=by simp [sgn,hneg]
  have hs:sg_ q= -q.g:=by unfold sg_; rw [if_pos hneg]
  simp only [Bc.o,Bc.K,c1,c2,hgq,Hb,dtrue es,Ls,Oh,IV,←hs,Kh,cond_true,o0,o1,o2,o3,o4,p0,p1,p2,p3,p4]
  by_cases e:sg_ q=1
  ·rw [e]; exact congrArg some (h1 e)
  ·rw [Fu e]; rfl
 ·have es:¬sgn q.d<0:=by unfold sgn; rw [if_neg hneg]; split<;>decide
  have hs:sg_ q=q.g:=by unfold sg_; rw [if_neg hneg]
  simp only [Bc.o,Bc.K,c1,c2,hgq,Hb,dfalse es,Ls,Oh,←hs,Kh,cond_true,cond_false,o0,o1,o2,o3,o4,p0,p1,p2,p3,p4]
  by_cases e:sg_ q=1
  ·rw [e]; exact congrArg some (h1 e)
  ·rw [Fu e]; rfl
theorem Bc.ps {k:Nat} {q:Q} (h:q.Bd k) (hk:k≤LIM) (hd:q.d≠0):
 Bc.pre (dI q.c0).1 (dI q.c0).2 (dI q.c1).1 (dI q.c1).2 (dI q.c2).1 (dI q.c2).2 (dI q.c3).1 (dI q.c3).2 (dI q.d).1 (dI q.d).2=true:=Ey (Bc.os h hk hd)
theorem Bc.es {k:Nat} {q:Q} (h:q.Bd k) (hk:k≤LIM) (hd:q.d≠0):
 Bc (dI q.c0).1 (dI q.c0).2 (dI q.c1).1 (dI q.c1).2 (dI q.c2).1 (dI q.c2).2 (dI q.c3).1 (dI q.c3).2 (dI q.d).1 (dI q.d).2=C5 (low q):=Fq (Bc.os h hk hd)
end
theorem Bc.ok:SOK Tryz.prog 103 (Bc.sp Bc Bc.pre):=by
 refine Cq (E:=⟨[(97,Eh.sp Eh),(98,Bq.sp Bq Bq.pre),(99,Cu.sp Cu Cu.pre),(126,Em.sp Em),(127,Cn.sp Cn Cn.pre)],[],[]⟩) (L:=[]) ⟨(Aa Eh.ok (Aa Bq.ok (Aa Cu.ok (Aa Em.ok (Aa Cn.ok Ac))))),Ai,Ad,Ah⟩ 60 Tryz.func103 (by decide) rfl Bs fun vs bl v bl' h=> ?_
 unfold Bc.sp at h
 split at h
 ·rename_i A2 A3 A8 A7 A6 A9 AB AA A5 A4
  simp only [Option.some.injEq,Prod.mk.injEq] at h
  obtain ⟨hp,rfl,rfl⟩:=h
  have hr:=Bc.run Eh Bq Bq.pre Cu Cu.pre Em Cn Cn.pre A2 A3 A8 A7 A6 A9 AB AA A5 A4
  rw [Bc.nat] at hr
  obtain ⟨r,h2⟩:=Option.isSome_iff_exists.1 (hp:(Bc.o A2 A3 A8 A7 A6 A9 AB AA A5 A4).isSome=true)
  have h3:Bc A2 A3 A8 A7 A6 A9 AB AA A5 A4=r:=by unfold Bc; rw [h2]; rfl
  have h4:Bc.K Eh Bq Bq.pre Cu Cu.pre Em Cn Cn.pre A2 A3 A8 A7 A6 A9 AB AA A5 A4 some=some r:=h2
  rw [h4,Option.bind_some] at hr
  rw [h3]
  exact ⟨hr,by simp [okV,Nat.blt],clo_spec 8 _ (by kernel_rfl),As (by kernel_rfl)⟩
 ·cases h
section
variable {R:Type} (EU:Bool→ByteArray→(Bool)) (D1:Bool→ByteArray→(Int)) (DZ:TF5 (Bool×ByteArray)) (E4:TF5 Bool) (CX:Int→(Bool×ByteArray)) (CV:Int→Bool) (A2:Bool) (A3:ByteArray) (A8:Bool) (A7:ByteArray) (A6:Bool) (A9:ByteArray) (AB:Bool) (AA:ByteArray) (AD:Bool) (AC:ByteArray)
def Ae.K (k:(Bool)→Option R):Option R:=
 let t0:=EU A2 A3
 bif !t0 then k (false) else
 let t1:=EU A8 A7
 bif !t1 then k (false) else
 let t2:=EU A6 A9
 bif !t2 then k (false) else
 let t3:=EU AB AA
 bif !t3 then k (false) else
 let t4:=EU AD AC
 bif t4 then
 let t5:=D1 AD AC
 bif decide (t5>0) then
 let t6:=E4 A2 A3 A8 A7 A6 A9 AB AA AD AC
 bif t6 then
 let t7:=CV 1
 bif t7 then
 let t8:=DZ A2 A3 A8 A7 A6 A9 AB AA AD AC
 let t9:=CX 1
 k (t8.1==t9.1&&t8.2.toList==t9.2.toList) else none else none else k (false) else k (false)
theorem Ae.run:xfn Tryz.prog ⟨[(96,Fo.sp EU),(97,Eh.sp D1),(98,Bq.sp DZ E4),(99,Cu.sp CX CV)],[],[]⟩ [] 60 Tryz.f68 [.agg ⟨[.bool A2,.string A3,.bool A8,.string A7,.bool A6,.string A9,.bool AB,.string AA,.bool AD,.string AC]⟩] []=Ae.K EU D1 DZ E4 CX CV A2 A3 A8 A7 A6 A9 AB AA AD AC (fun r=>some (.bool r,[])):=by kernel_rfl
def Ae.o:Option (Bool):=Ae.K Fo Eh Bq Bq.pre Cu Cu.pre A2 A3 A8 A7 A6 A9 AB AA AD AC some
def Ae.pre:Bool:=(Ae.o A2 A3 A8 A7 A6 A9 AB AA AD AC).isSome
def Ae:Bool:=(Ae.o A2 A3 A8 A7 A6 A9 AB AA AD AC).getD default
theorem Ae.nat (k:(Bool)→Option R):Ae.K EU D1 DZ E4 CX CV A2 A3 A8 A7 A6 A9 AB AA AD AC k=(Ae.K EU D1 DZ E4 CX CV A2 A3 A8 A7 A6 A9 AB AA AD AC some).bind k:=by
 simp only [Ae.K,bcond,Option.bind_some,Option.bind_none]
theorem Ae.os {k:Nat} {q:Q} (h:q.Bd k) (hk:k≤LIM):
  Ae.o (dI q.c0).1 (dI q.c0).2 (dI q.c1).1 (dI q.c1).2 (dI q.c2).1 (dI q.c2).2 (dI q.c3).1 (dI q.c3).2 (dI q.d).1 (dI q.d).2=some q.ok:=by
 have c1:=Bq.ps h.c0 h.c1 h.c2 h.c3 h.d hk
 have c2:=Bq.es h.c0 h.c1 h.c2 h.c3 h.d hk
 have hgq:gg q.c0 q.c1 q.c2 q.c3 q.d=q.g:=rfl
 simp only [Ae.o,Ae.K,Ld,Hb,c1,c2,hgq,Ls,Oh,Kh,cond_true,cond_false,Bool.not_true]
 by_cases hp:0<q.d
 ·have:sgn q.d>0:=by unfold sgn; rw [if_neg (by omega),if_neg (by omega)]; decide
  simp [dtrue this,Q.ok,hp]
 ·have:¬sgn q.d>0:=by unfold sgn; split; decide; rw [if_pos (by omega)]; decide
  simp [dfalse this,Q.ok,hp]
theorem Ae.ps {k:Nat} {q:Q} (h:q.Bd k) (hk:k≤LIM):
 Ae.pre (dI q.c0).1 (dI q.c0).2 (dI q.c1).1 (dI q.c1).2 (dI q.c2).1 (dI q.c2).2 (dI q.c3).1 (dI q.c3).2 (dI q.d).1 (dI q.d).2=true:=Ey (Ae.os h hk)
theorem Ae.es {k:Nat} {q:Q} (h:q.Bd k) (hk:k≤LIM):
 Ae (dI q.c0).1 (dI q.c0).2 (dI q.c1).1 (dI q.c1).2 (dI q.c2).1 (dI q.c2).2 (dI q.c3).1 (dI q.c3).2 (dI q.d).1 (dI q.d).2=q.ok:=Fq (Ae.os h hk)
end
theorem Ae.ok:SOK Tryz.prog 68 (Ae.sp Ae Ae.pre):=by
 refine Cq (E:=⟨[(96,Fo.sp Fo),(97,Eh.sp Eh),(98,Bq.sp Bq Bq.pre),(99,Cu.sp Cu Cu.pre)],[],[]⟩) (L:=[]) ⟨(Aa Fo.ok (Aa Eh.ok (Aa Bq.ok (Aa Cu.ok Ac)))),Ai,Ad,Ah⟩ 60 Tryz.func68 (by decide) rfl Bs fun vs bl v bl' h=> ?_
 unfold Ae.sp at h
 split at h
 ·rename_i A2 A3 A8 A7 A6 A9 AB AA AD AC
  simp only [Option.some.injEq,Prod.mk.injEq] at h
  obtain ⟨hp,rfl,rfl⟩:=h
  have hr:=Ae.run Fo Eh Bq Bq.pre Cu Cu.pre A2 A3 A8 A7 A6 A9 AB AA AD AC
  rw [Ae.nat] at hr
  obtain ⟨r,h2⟩:=Option.isSome_iff_exists.1 (hp:(Ae.o A2 A3 A8 A7 A6 A9 AB AA AD AC).isSome=true)
  have h3:Ae A2 A3 A8 A7 A6 A9 AB AA AD AC=r:=by unfold Ae; rw [h2]; rfl
  have h4:Ae.K Fo Eh Bq Bq.pre Cu Cu.pre A2 A3 A8 A7 A6 A9 AB AA AD AC some=some r:=h2
  rw [h4,Option.bind_some] at hr
  rw [h3]
  exact ⟨hr,by simp [okV,Nat.blt],clo_spec 8 _ (by kernel_rfl),As (by kernel_rfl)⟩
 ·cases h
section
variable {R:Type} (CX:Int→(Bool×ByteArray)) (CV:Int→Bool) (a0:Int)
def By.K (k:TY5→Option R):Option R:=
 let t0:=CV a0
 bif t0 then
 let t1:=CV 1
 bif t1 then
 let t2:=CX a0
 let t3:=CX 1
 k (t2.1,t2.2,false,{data:= #[]},false,{data:= #[]},false,{data:= #[]},t3.1,t3.2) else none else none
theorem By.run:xfn Tryz.prog ⟨[(99,Cu.sp CX CV)],[],[]⟩ [] 60 Tryz.f73 [.int .i64 a0] []=By.K CX CV a0 (fun r=>some (.agg ⟨[.bool r.1,.string r.2.1,.bool r.2.2.1,.string r.2.2.2.1,.bool r.2.2.2.2.1,.string r.2.2.2.2.2.1,.bool r.2.2.2.2.2.2.1,.string r.2.2.2.2.2.2.2.1,.bool r.2.2.2.2.2.2.2.2.1,.string r.2.2.2.2.2.2.2.2.2]⟩,[])):=by kernel_rfl
def By.o (a0:Int):Option (TY5):=By.K Cu Cu.pre a0 some
def By.pre (a0:Int):Bool:=(By.o a0).isSome
def By (a0:Int):TY5:=(By.o a0).getD default
theorem By.nat (k:TY5→Option R):By.K CX CV a0 k=(By.K CX CV a0 some).bind k:=by
 simp only [By.K,bcond,Option.bind_some,Option.bind_none]
theorem By.os {n:Int} (h: -9223372036854775808≤n) (h':n≤9223372036854775807):By.o n=some (C5 ⟨n,0,0,0,1⟩):=by
 simp only [By.o,By.K,of_pre h h',Ls,Oh,cond_true,C5,M0]
theorem By.ps {n:Int} (h: -9223372036854775808≤n) (h':n≤9223372036854775807):By.pre n=true:=Ey (By.os h h')
theorem By.es {n:Int} (h: -9223372036854775808≤n) (h':n≤9223372036854775807):By n=C5 ⟨n,0,0,0,1⟩:=Fq (By.os h h')
end
theorem By.ok:SOK Tryz.prog 73 (By.sp By By.pre):=by
 refine Cq (E:=⟨[(99,Cu.sp Cu Cu.pre)],[],[]⟩) (L:=[]) ⟨(Aa Cu.ok Ac),Ai,Ad,Ah⟩ 60 Tryz.func73 (by decide) rfl Bs fun vs bl v bl' h=> ?_
 unfold By.sp at h
 split at h
 ·rename_i a0
  simp only [Option.some.injEq,Prod.mk.injEq] at h
  obtain ⟨hp,rfl,rfl⟩:=h
  have hr:=By.run Cu Cu.pre a0
  rw [By.nat] at hr
  obtain ⟨r,h2⟩:=Option.isSome_iff_exists.1 (hp:(By.o a0).isSome=true)
  have h3:By a0=r:=by unfold By; rw [h2]; rfl
  have h4:By.K Cu Cu.pre a0 some=some r:=h2
  rw [h4,Option.bind_some] at hr
  rw [h3]
  exact ⟨hr,by simp [okV,Nat.blt],clo_spec 8 _ (by kernel_rfl),As (by kernel_rfl)⟩
 ·cases h
end Go.Proofs.YtphlckkbihmlnaaGreatDoor.G
end
section
namespace Go.Proofs.YtphlckkbihmlnaaGreatDoor.G
set_option maxRecDepth 100000
open Go Go.Proofs RX
def prS (A2:Bool) (A3:ByteArray) (A8:Bool) (A7:ByteArray) (A6:Bool) (A9:ByteArray) (AB:Bool) (AA:ByteArray) (AD:Bool) (AC:ByteArray) (A5:Bool) (A4:ByteArray) (AF:Bool) (AE:ByteArray) (AH:Bool) (AG:ByteArray) (AO:Bool) (AN:ByteArray) (AK:Bool) (AJ:ByteArray):PrS:=⟨false,(⟨#[]⟩:ByteArray),false,(⟨#[]⟩:ByteArray),false,(⟨#[]⟩:ByteArray),false,(⟨#[]⟩:ByteArray),false,(⟨#[]⟩:ByteArray),false,(⟨#[]⟩:ByteArray),false,(⟨#[]⟩:ByteArray),false,(⟨#[]⟩:ByteArray),false,(⟨#[]⟩:ByteArray),A2,A3,A8,A7,A6,A9,AB,AA,A2,A3,A8,A7,A6,A9,AB,AA,AD,AC,A5,A4,AF,AE,AH,AG,AO,AN,AK,AJ⟩
theorem product.run (fM:Bool→ByteArray→Bool→ByteArray→(Bool×ByteArray)) (pM:Bool→ByteArray→Bool→ByteArray→Bool) (fL:TF5 T10) (pL:TF5 Bool) (A2:Bool) (A3:ByteArray) (A8:Bool) (A7:ByteArray) (A6:Bool) (A9:ByteArray) (AB:Bool) (AA:ByteArray) (AD:Bool) (AC:ByteArray) (A5:Bool) (A4:ByteArray) (AF:Bool) (AE:ByteArray) (AH:Bool) (AG:ByteArray) (AO:Bool) (AN:ByteArray) (AK:Bool) (AJ:ByteArray):
 xfn Tryz.prog ⟨[(102,Cb.sp fM pM),(103,Bc.sp fL pL)],[],[]⟩ [(0,pro.t)] 60 Tryz.f100 [.agg ⟨[.bool A2,.string A3,.bool A8,.string A7,.bool A6,.string A9,.bool AB,.string AA,.bool AD,.string AC]⟩,.agg ⟨[.bool A5,.string A4,.bool AF,.string AE,.bool AH,.string AG,.bool AO,.string AN,.bool AK,.string AJ]⟩] []= bif pro.need (prS A2 A3 A8 A7 A6 A9 AB AA AD AC A5 A4 AF AE AH AG AO AN AK AJ) then bif pM AD AC AK AJ then bif pL (prS A2 A3 A8 A7 A6 A9 AB AA AD AC A5 A4 AF AE AH AG AO AN AK AJ).fin.cn0 (prS A2 A3 A8 A7 A6 A9 AB AA AD AC A5 A4 AF AE AH AG AO AN AK AJ).fin.cs0 (prS A2 A3 A8 A7 A6 A9 AB AA AD AC A5 A4 AF AE AH AG AO AN AK AJ).fin.cn1 (prS A2 A3 A8 A7 A6 A9 AB AA AD AC A5 A4 AF AE AH AG AO AN AK AJ).fin.cs1 (prS A2 A3 A8 A7 A6 A9 AB AA AD AC A5 A4 AF AE AH AG AO AN AK AJ).fin.cn2 (prS A2 A3 A8 A7 A6 A9 AB AA AD AC A5 A4 AF AE AH AG AO AN AK AJ).fin.cs2 (prS A2 A3 A8 A7 A6 A9 AB AA AD AC A5 A4 AF AE AH AG AO AN AK AJ).fin.cn3 (prS A2 A3 A8 A7 A6 A9 AB AA AD AC A5 A4 AF AE AH AG AO AN AK AJ).fin.cs3 (fM AD AC AK AJ).1 (fM AD AC AK AJ).2 then some (.agg ⟨[.bool (fL (prS A2 A3 A8 A7 A6 A9 AB AA AD AC A5 A4 AF AE AH AG AO AN AK AJ).fin.cn0 (prS A2 A3 A8 A7 A6 A9 AB AA AD AC A5 A4 AF AE AH AG AO AN AK AJ).fin.cs0 (prS A2 A3 A8 A7 A6 A9 AB AA AD AC A5 A4 AF AE AH AG AO AN AK AJ).fin.cn1 (prS A2 A3 A8 A7 A6 A9 AB AA AD AC A5 A4 AF AE AH AG AO AN AK AJ).fin.cs1 (prS A2 A3 A8 A7 A6 A9 AB AA AD AC A5 A4 AF AE AH AG AO AN AK AJ).fin.cn2 (prS A2 A3 A8 A7 A6 A9 AB AA AD AC A5 A4 AF AE AH AG AO AN AK AJ).fin.cs2 (prS A2 A3 A8 A7 A6 A9 AB AA AD AC A5 A4 AF AE AH AG AO AN AK AJ).fin.cn3 (prS A2 A3 A8 A7 A6 A9 AB AA AD AC A5 A4 AF AE AH AG AO AN AK AJ).fin.cs3 (fM AD AC AK AJ).1 (fM AD AC AK AJ).2).1,.string (fL (prS A2 A3 A8 A7 A6 A9 AB AA AD AC A5 A4 AF AE AH AG AO AN AK AJ).fin.cn0 (prS A2 A3 A8 A7 A6 A9 AB AA AD AC A5 A4 AF AE AH AG AO AN AK AJ).fin.cs0 (prS A2 A3 A8 A7 A6 A9 AB AA AD AC A5 A4 AF AE AH AG AO AN AK AJ).fin.cn1 (prS A2 A3 A8 A7 A6 A9 AB AA AD AC A5 A4 AF AE AH AG AO AN AK AJ).fin.cs1 (prS A2 A3 A8 A7 A6 A9 AB AA AD AC A5 A4 AF AE AH AG AO AN AK AJ).fin.cn2 (prS A2 A3 A8 A7 A6 A9 AB AA AD AC A5 A4 AF AE AH AG AO AN AK AJ).fin.cs2 (prS A2 A3 A8 A7 A6 A9 AB AA AD AC A5 A4 AF AE AH AG AO AN AK AJ).fin.cn3 (prS A2 A3 A8 A7 A6 A9 AB AA AD AC A5 A4 AF AE AH AG AO AN AK AJ).fin.cs3 (fM AD AC AK AJ).1 (fM AD AC AK AJ).2).2.1,.bool (fL (prS A2 A3 A8 A7 A6 A9 AB AA AD AC A5 A4 AF AE AH AG AO AN AK AJ).fin.cn0 (prS A2 A3 A8 A7 A6 A9 AB AA AD AC A5 A4 AF AE AH AG AO AN AK AJ).fin.cs0 (prS A2 A3 A8 A7 A6 A9 AB AA AD AC A5 A4 AF AE AH AG AO AN AK AJ).fin.cn1 (prS A2 A3 A8 A7 A6 A9 AB AA AD AC A5 A4 AF AE AH AG AO AN AK AJ).fin.cs1 (prS A2 A3 A8 A7 A6 A9 AB AA AD AC A5 A4 AF AE AH AG AO AN AK AJ).fin.cn2 (prS A2 A3 A8 A7 A6 A9 AB AA AD AC A5 A4 AF AE AH AG AO AN AK AJ).fin.cs2 (prS A2 A3 A8 A7 A6 A9 AB AA AD AC A5 A4 AF AE AH AG AO AN AK AJ).fin.cn3 (prS A2 A3 A8 A7 A6 A9 AB AA AD AC A5 A4 AF AE AH AG AO AN AK AJ).fin.cs3 (fM AD AC AK AJ).1 (fM AD AC AK AJ).2).2.2.1,.string (fL (prS A2 A3 A8 A7 A6 A9 AB AA AD AC A5 A4 AF AE AH AG AO AN AK AJ).fin.cn0 (prS A2 A3 A8 A7 A6 A9 AB AA AD AC A5 A4 AF AE AH AG AO AN AK AJ).fin.cs0 (prS A2 A3 A8 A7 A6 A9 AB AA AD AC A5 A4 AF AE AH AG AO AN AK AJ).fin.cn1 (prS A2 A3 A8 A7 A6 A9 AB AA AD AC A5 A4 AF AE AH AG AO AN AK AJ).fin.cs1 (prS A2 A3 A8 A7 A6 A9 AB AA AD AC A5 A4 AF AE AH AG AO AN AK AJ).fin.cn2 (prS A2 A3 A8 A7 A6 A9 AB AA AD AC A5 A4 AF AE AH AG AO AN AK AJ).fin.cs2 (prS A2 A3 A8 A7 A6 A9 AB AA AD AC A5 A4 AF AE AH AG AO AN AK AJ).fin.cn3 (prS A2 A3 A8 A7 A6 A9 AB AA AD AC A5 A4 AF AE AH AG AO AN AK AJ).fin.cs3 (fM AD AC AK AJ).1 (fM AD AC AK AJ).2).2.2.2.1,.bool (fL (prS A2 A3 A8 A7 A6 A9 AB AA AD AC A5 A4 AF AE AH AG AO AN AK AJ).fin.cn0 (prS A2 A3 A8 A7 A6 A9 AB AA AD AC A5 A4 AF AE AH AG AO AN AK AJ).fin.cs0 (prS A2 A3 A8 A7 A6 A9 AB AA AD AC A5 A4 AF AE AH AG AO AN AK AJ).fin.cn1 (prS A2 A3 A8 A7 A6 A9 AB AA AD AC A5 A4 AF AE AH AG AO AN AK AJ).fin.cs1 (prS A2 A3 A8 A7 A6 A9 AB AA AD AC A5 A4 AF AE AH AG AO AN AK AJ).fin.cn2 (prS A2 A3 A8 A7 A6 A9 AB AA AD AC A5 A4 AF AE AH AG AO AN AK AJ).fin.cs2 (prS A2 A3 A8 A7 A6 A9 AB AA AD AC A5 A4 AF AE AH AG AO AN AK AJ).fin.cn3 (prS A2 A3 A8 A7 A6 A9 AB AA AD AC A5 A4 AF AE AH AG AO AN AK AJ).fin.cs3 (fM AD AC AK AJ).1 (fM AD AC AK AJ).2).2.2.2.2.1,.string (fL (prS A2 A3 A8 A7 A6 A9 AB AA AD AC A5 A4 AF AE AH AG AO AN AK AJ).fin.cn0 (prS A2 A3 A8 A7 A6 A9 AB AA AD AC A5 A4 AF AE AH AG AO AN AK AJ).fin.cs0 (prS A2 A3 A8 A7 A6 A9 AB AA AD AC A5 A4 AF AE AH AG AO AN AK AJ).fin.cn1 (prS A2 A3 A8 A7 A6 A9 AB AA AD AC A5 A4 AF AE AH AG AO AN AK AJ).fin.cs1 (prS A2 A3 A8 A7 A6 A9 AB AA AD AC A5 A4 AF AE AH AG AO AN AK AJ).fin.cn2 (prS A2 A3 A8 A7 A6 A9 AB AA AD AC A5 A4 AF AE AH AG AO AN AK AJ).fin.cs2 (prS A2 A3 A8 A7 A6 A9 AB AA AD AC A5 A4 AF AE AH AG AO AN AK AJ).fin.cn3 (prS A2 A3 A8 A7 A6 A9 AB AA AD AC A5 A4 AF AE AH AG AO AN AK AJ).fin.cs3 (fM AD AC AK AJ).1 (fM AD AC AK AJ).2).2.2.2.2.2.1,.bool (fL (prS A2 A3 A8 A7 A6 A9 AB AA AD AC A5 A4 AF AE AH AG AO AN AK AJ).fin.cn0 (prS A2 A3 A8 A7 A6 A9 AB AA AD AC A5 A4 AF AE AH AG AO AN AK AJ).fin.cs0 (prS A2 A3 A8 A7 A6 A9 AB AA AD AC A5 A4 AF AE AH AG AO AN AK AJ).fin.cn1 (prS A2 A3 A8 A7 A6 A9 AB AA AD AC A5 A4 AF AE AH AG AO AN AK AJ).fin.cs1 (prS A2 A3 A8 A7 A6 A9 AB AA AD AC A5 A4 AF AE AH AG AO AN AK AJ).fin.cn2 (prS A2 A3 A8 A7 A6 A9 AB AA AD AC A5 A4 AF AE AH AG AO AN AK AJ).fin.cs2 (prS A2 A3 A8 A7 A6 A9 AB AA AD AC A5 A4 AF AE AH AG AO AN AK AJ).fin.cn3 (prS A2 A3 A8 A7 A6 A9 AB AA AD AC A5 A4 AF AE AH AG AO AN AK AJ).fin.cs3 (fM AD AC AK AJ).1 (fM AD AC AK AJ).2).2.2.2.2.2.2.1,.string (fL (prS A2 A3 A8 A7 A6 A9 AB AA AD AC A5 A4 AF AE AH AG AO AN AK AJ).fin.cn0 (prS A2 A3 A8 A7 A6 A9 AB AA AD AC A5 A4 AF AE AH AG AO AN AK AJ).fin.cs0 (prS A2 A3 A8 A7 A6 A9 AB AA AD AC A5 A4 AF AE AH AG AO AN AK AJ).fin.cn1 (prS A2 A3 A8 A7 A6 A9 AB AA AD AC A5 A4 AF AE AH AG AO AN AK AJ).fin.cs1 (prS A2 A3 A8 A7 A6 A9 AB AA AD AC A5 A4 AF AE AH AG AO AN AK AJ).fin.cn2 (prS A2 A3 A8 A7 A6 A9 AB AA AD AC A5 A4 AF AE AH AG AO AN AK AJ).fin.cs2 (prS A2 A3 A8 A7 A6 A9 AB AA AD AC A5 A4 AF AE AH AG AO AN AK AJ).fin.cn3 (prS A2 A3 A8 A7 A6 A9 AB AA AD AC A5 A4 AF AE AH AG AO AN AK AJ).fin.cs3 (fM AD AC AK AJ).1 (fM AD AC AK AJ).2).2.2.2.2.2.2.2.1,.bool (fL (prS A2 A3 A8 A7 A6 A9 AB AA AD AC A5 A4 AF AE AH AG AO AN AK AJ).fin.cn0 (prS A2 A3 A8 A7 A6 A9 AB AA AD AC A5 A4 AF AE AH AG AO AN AK AJ).fin.cs0 (prS A2 A3 A8 A7 A6 A9 AB AA AD AC A5 A4 AF AE AH AG AO AN AK AJ).fin.cn1 (prS A2 A3 A8 A7 A6 A9 AB AA AD AC A5 A4 AF AE AH AG AO AN AK AJ).fin.cs1 (prS A2 A3 A8 A7 A6 A9 AB AA AD AC A5 A4 AF AE AH AG AO AN AK AJ).fin.cn2 (prS A2 A3 A8 A7 A6 A9 AB AA AD AC A5 A4 AF AE AH AG AO AN AK AJ).fin.cs2 (prS A2 A3 A8 A7 A6 A9 AB AA AD AC A5 A4 AF AE AH AG AO AN AK AJ).fin.cn3 (prS A2 A3 A8 A7 A6 A9 AB AA AD AC A5 A4 AF AE AH AG AO AN AK AJ).fin.cs3 (fM AD AC AK AJ).1 (fM AD AC AK AJ).2).2.2.2.2.2.2.2.2.1,.string (fL (prS A2 A3 A8 A7 A6 A9 AB AA AD AC A5 A4 AF AE AH AG AO AN AK AJ).fin.cn0 (prS A2 A3 A8 A7 A6 A9 AB AA AD AC A5 A4 AF AE AH AG AO AN AK AJ).fin.cs0 (prS A2 A3 A8 A7 A6 A9 AB AA AD AC A5 A4 AF AE AH AG AO AN AK AJ).fin.cn1 (prS A2 A3 A8 A7 A6 A9 AB AA AD AC A5 A4 AF AE AH AG AO AN AK AJ).fin.cs1 (prS A2 A3 A8 A7 A6 A9 AB AA AD AC A5 A4 AF AE AH AG AO AN AK AJ).fin.cn2 (prS A2 A3 A8 A7 A6 A9 AB AA AD AC A5 A4 AF AE AH AG AO AN AK AJ).fin.cs2 (prS A2 A3 A8 A7 A6 A9 AB AA AD AC A5 A4 AF AE AH AG AO AN AK AJ).fin.cn3 (prS A2 A3 A8 A7 A6 A9 AB AA AD AC A5 A4 AF AE AH AG AO AN AK AJ).fin.cs3 (fM AD AC AK AJ).1 (fM AD AC AK AJ).2).2.2.2.2.2.2.2.2.2]⟩,[]) else none else none else none:=by kernel_rfl
section
variable (A2:Bool) (A3:ByteArray) (A8:Bool) (A7:ByteArray) (A6:Bool) (A9:ByteArray) (AB:Bool) (AA:ByteArray) (AD:Bool) (AC:ByteArray) (A5:Bool) (A4:ByteArray) (AF:Bool) (AE:ByteArray) (AH:Bool) (AG:ByteArray) (AO:Bool) (AN:ByteArray) (AK:Bool) (AJ:ByteArray)
def Bw:T10:=Bc (prS A2 A3 A8 A7 A6 A9 AB AA AD AC A5 A4 AF AE AH AG AO AN AK AJ).fin.cn0 (prS A2 A3 A8 A7 A6 A9 AB AA AD AC A5 A4 AF AE AH AG AO AN AK AJ).fin.cs0 (prS A2 A3 A8 A7 A6 A9 AB AA AD AC A5 A4 AF AE AH AG AO AN AK AJ).fin.cn1 (prS A2 A3 A8 A7 A6 A9 AB AA AD AC A5 A4 AF AE AH AG AO AN AK AJ).fin.cs1 (prS A2 A3 A8 A7 A6 A9 AB AA AD AC A5 A4 AF AE AH AG AO AN AK AJ).fin.cn2 (prS A2 A3 A8 A7 A6 A9 AB AA AD AC A5 A4 AF AE AH AG AO AN AK AJ).fin.cs2 (prS A2 A3 A8 A7 A6 A9 AB AA AD AC A5 A4 AF AE AH AG AO AN AK AJ).fin.cn3 (prS A2 A3 A8 A7 A6 A9 AB AA AD AC A5 A4 AF AE AH AG AO AN AK AJ).fin.cs3 (Cb AD AC AK AJ).1 (Cb AD AC AK AJ).2
def Bw.pre:Bool:=pro.need (prS A2 A3 A8 A7 A6 A9 AB AA AD AC A5 A4 AF AE AH AG AO AN AK AJ)&&(Cb.pre AD AC AK AJ&&Bc.pre (prS A2 A3 A8 A7 A6 A9 AB AA AD AC A5 A4 AF AE AH AG AO AN AK AJ).fin.cn0 (prS A2 A3 A8 A7 A6 A9 AB AA AD AC A5 A4 AF AE AH AG AO AN AK AJ).fin.cs0 (prS A2 A3 A8 A7 A6 A9 AB AA AD AC A5 A4 AF AE AH AG AO AN AK AJ).fin.cn1 (prS A2 A3 A8 A7 A6 A9 AB AA AD AC A5 A4 AF AE AH AG AO AN AK AJ).fin.cs1 (prS A2 A3 A8 A7 A6 A9 AB AA AD AC A5 A4 AF AE AH AG AO AN AK AJ).fin.cn2 (prS A2 A3 A8 A7 A6 A9 AB AA AD AC A5 A4 AF AE AH AG AO AN AK AJ).fin.cs2 (prS A2 A3 A8 A7 A6 A9 AB AA AD AC A5 A4 AF AE AH AG AO AN AK AJ).fin.cn3 (prS A2 A3 A8 A7 A6 A9 AB AA AD AC A5 A4 AF AE AH AG AO AN AK AJ).fin.cs3 (Cb AD AC AK AJ).1 (Cb AD AC AK AJ).2)
end
theorem Bw.ok:SOK Tryz.prog 100 (Bw.sp Bw Bw.pre):=by
 refine Cq (E:=⟨[(102,Cb.sp Cb Cb.pre),(103,Bc.sp Bc Bc.pre)],[],[]⟩) (L:=[(0,pro.t)]) ⟨Aa Cb.ok (Aa Bc.ok Ac),Ai,Ad,Ah⟩ 60 Tryz.func100 (by decide) rfl (Fy rfl rfl pro.lok) fun vs bl v bl' h=> ?_
 unfold Bw.sp at h
 split at h
 ·rename_i A2 A3 A8 A7 A6 A9 AB AA AD AC A5 A4 AF AE AH AG AO AN AK AJ
  simp only [Option.some.injEq,Prod.mk.injEq] at h
  obtain ⟨hp,rfl,rfl⟩:=h
  unfold Bw.pre at hp
  simp only [Bool.and_eq_true] at hp
  refine ⟨(product.run Cb Cb.pre Bc Bc.pre A2 A3 A8 A7 A6 A9 AB AA AD AC A5 A4 AF AE AH AG AO AN AK AJ).trans (((ct hp.1).trans (ct hp.2.1)).trans (ct hp.2.2)),by simp [okV,Nat.blt],clo_spec 8 _ (by kernel_rfl),As (by kernel_rfl)⟩
 ·cases h
def qprod (x y:Q):Q:=⟨0+1*(x.c0*y.c0)+2*(x.c1*y.c1)+3*(x.c2*y.c2)+6*(x.c3*y.c3),0+1*(x.c0*y.c1)+1*(x.c1*y.c0)+3*(x.c2*y.c3)+3*(x.c3*y.c2),0+1*(x.c0*y.c2)+2*(x.c1*y.c3)+1*(x.c2*y.c0)+2*(x.c3*y.c1),0+1*(x.c0*y.c3)+1*(x.c1*y.c2)+1*(x.c2*y.c1)+1*(x.c3*y.c0),x.d*y.d⟩
theorem Lo {j k:Nat} {c q a b:Int} {m:Nat} (hc:Bd m c) (hq:Few6 q) (ha:Bd j a) (hb:Bd k b) (hm:1+(j+k)≤m):Bd (m+1) (c+q*(a*b)):=hc.add (((HY hq).mul (ha.mul hb)).mono hm)
theorem ME {j k:Nat} {x y:Q} (hx:x.Bd j) (hy:y.Bd k):(qprod x y).Bd (j+k+5):=by
 have f1:Few6 1:= .inl rfl
 have f2:Few6 2:= .inr (.inl rfl)
 have f3:Few6 3:= .inr (.inr (.inl rfl))
 have f6:Few6 6:= .inr (.inr (.inr rfl))
 have z:Bd (1+(j+k)) 0:=Bd.zero _
 have four:∀ {q0 q1 q2 q3 a0 b0 a1 b1 a2 b2 a3 b3:Int},Few6 q0→Few6 q1→Few6 q2→Few6 q3→Bd j a0→Bd k b0→Bd j a1→Bd k b1→Bd j a2→Bd k b2→Bd j a3→Bd k b3→Bd (j+k+5) (0+q0*(a0*b0)+q1*(a1*b1)+q2*(a2*b2)+q3*(a3*b3)):=fun h0 h1 h2 h3 a0 b0 a1 b1 a2 b2 a3 b3=>
  (Lo (Lo (Lo (Lo z h0 a0 b0 (by omega)) h1 a1 b1 (by omega)) h2 a2 b2 (by omega)) h3 a3 b3 (by omega)).mono (by omega)
 exact ⟨four f1 f2 f3 f6 hx.c0 hy.c0 hx.c1 hy.c1 hx.c2 hy.c2 hx.c3 hy.c3,four f1 f1 f3 f3 hx.c0 hy.c1 hx.c1 hy.c0 hx.c2 hy.c3 hx.c3 hy.c2,four f1 f2 f1 f2 hx.c0 hy.c2 hx.c1 hy.c3 hx.c2 hy.c0 hx.c3 hy.c1,four f1 f1 f1 f1 hx.c0 hy.c3 hx.c1 hy.c2 hx.c2 hy.c1 hx.c3 hy.c0,(hx.d.mul hy.d).mono (by omega)⟩
section
variable {j k:Nat} {x y:Q}
theorem QN:(prS (dI x.c0).1 (dI x.c0).2 (dI x.c1).1 (dI x.c1).2 (dI x.c2).1 (dI x.c2).2 (dI x.c3).1 (dI x.c3).2 (dI x.d).1 (dI x.d).2 (dI y.c0).1 (dI y.c0).2 (dI y.c1).1 (dI y.c1).2 (dI y.c2).1 (dI y.c2).2 (dI y.c3).1 (dI y.c3).2 (dI y.d).1 (dI y.d).2).fin.cn0=(dI (qprod x y).c0).1∧(prS (dI x.c0).1 (dI x.c0).2 (dI x.c1).1 (dI x.c1).2 (dI x.c2).1 (dI x.c2).2 (dI x.c3).1 (dI x.c3).2 (dI x.d).1 (dI x.d).2 (dI y.c0).1 (dI y.c0).2 (dI y.c1).1 (dI y.c1).2 (dI y.c2).1 (dI y.c2).2 (dI y.c3).1 (dI y.c3).2 (dI y.d).1 (dI y.d).2).fin.cs0=(dI (qprod x y).c0).2∧(prS (dI x.c0).1 (dI x.c0).2 (dI x.c1).1 (dI x.c1).2 (dI x.c2).1 (dI x.c2).2 (dI x.c3).1 (dI x.c3).2 (dI x.d).1 (dI x.d).2 (dI y.c0).1 (dI y.c0).2 (dI y.c1).1 (dI y.c1).2 (dI y.c2).1 (dI y.c2).2 (dI y.c3).1 (dI y.c3).2 (dI y.d).1 (dI y.d).2).fin.cn1=(dI (qprod x y).c1).1∧(prS (dI x.c0).1 (dI x.c0).2 (dI x.c1).1 (dI x.c1).2 (dI x.c2).1 (dI x.c2).2 (dI x.c3).1 (dI x.c3).2 (dI x.d).1 (dI x.d).2 (dI y.c0).1 (dI y.c0).2 (dI y.c1).1 (dI y.c1).2 (dI y.c2).1 (dI y.c2).2 (dI y.c3).1 (dI y.c3).2 (dI y.d).1 (dI y.d).2).fin.cs1=(dI (qprod x y).c1).2∧(prS (dI x.c0).1 (dI x.c0).2 (dI x.c1).1 (dI x.c1).2 (dI x.c2).1 (dI x.c2).2 (dI x.c3).1 (dI x.c3).2 (dI x.d).1 (dI x.d).2 (dI y.c0).1 (dI y.c0).2 (dI y.c1).1 (dI y.c1).2 (dI y.c2).1 (dI y.c2).2 (dI y.c3).1 (dI y.c3).2 (dI y.d).1 (dI y.d).2).fin.cn2=(dI (qprod x y).c2).1∧(prS (dI x.c0).1 (dI x.c0).2 (dI x.c1).1 (dI x.c1).2 (dI x.c2).1 (dI x.c2).2 (dI x.c3).1 (dI x.c3).2 (dI x.d).1 (dI x.d).2 (dI y.c0).1 (dI y.c0).2 (dI y.c1).1 (dI y.c1).2 (dI y.c2).1 (dI y.c2).2 (dI y.c3).1 (dI y.c3).2 (dI y.d).1 (dI y.d).2).fin.cs2=(dI (qprod x y).c2).2∧(prS (dI x.c0).1 (dI x.c0).2 (dI x.c1).1 (dI x.c1).2 (dI x.c2).1 (dI x.c2).2 (dI x.c3).1 (dI x.c3).2 (dI x.d).1 (dI x.d).2 (dI y.c0).1 (dI y.c0).2 (dI y.c1).1 (dI y.c1).2 (dI y.c2).1 (dI y.c2).2 (dI y.c3).1 (dI y.c3).2 (dI y.d).1 (dI y.d).2).fin.cn3=(dI (qprod x y).c3).1∧(prS (dI x.c0).1 (dI x.c0).2 (dI x.c1).1 (dI x.c1).2 (dI x.c2).1 (dI x.c2).2 (dI x.c3).1 (dI x.c3).2 (dI x.d).1 (dI x.d).2 (dI y.c0).1 (dI y.c0).2 (dI y.c1).1 (dI y.c1).2 (dI y.c2).1 (dI y.c2).2 (dI y.c3).1 (dI y.c3).2 (dI y.d).1 (dI y.d).2).fin.cs3=(dI (qprod x y).c3).2:=by
 have h0:vl false (⟨#[]⟩:ByteArray)=0:=rfl
 simp only [PrS.fin,PrS.wc,prS,Hq,h0,qprod,and_self]
theorem Bw.ps (hx:x.Bd j) (hy:y.Bd k) (hj:j≤PRM) (hk:k≤PRM) (hd:x.d*y.d≠0):Bw.pre (dI x.c0).1 (dI x.c0).2 (dI x.c1).1 (dI x.c1).2 (dI x.c2).1 (dI x.c2).2 (dI x.c3).1 (dI x.c3).2 (dI x.d).1 (dI x.d).2 (dI y.c0).1 (dI y.c0).2 (dI y.c1).1 (dI y.c1).2 (dI y.c2).1 (dI y.c2).2 (dI y.c3).1 (dI y.c3).2 (dI y.d).1 (dI y.d).2=true:=by
 obtain ⟨e0,e1,e2,e3,e4,e5,e6,e7⟩:=QN (x:=x) (y:=y)
 have hq:=ME hx hy
 unfold Bw.pre
 rw [e0,e1,e2,e3,e4,e5,e6,e7,GV,Jc hx.d hy.d (by unfold LIM; unfold PRM at hj; omega) (by unfold LIM; unfold PRM at hk; omega)]
 have hl:=Bc.ps (q:=qprod x y) hq (by unfold LIM; unfold PRM at hj hk; omega) hd
 have hl2:Bc.pre (dI (qprod x y).c0).1 (dI (qprod x y).c0).2 (dI (qprod x y).c1).1 (dI (qprod x y).c1).2 (dI (qprod x y).c2).1 (dI (qprod x y).c2).2 (dI (qprod x y).c3).1 (dI (qprod x y).c3).2 (dI (x.d*y.d)).1 (dI (x.d*y.d)).2=true:=hl
 rw [hl2,Bool.and_true,Bool.and_true]
 have z:∀k,szB k false (⟨#[]⟩:ByteArray)=true:=fun k=>by simp [szB,vld,vldL]; exact Nat.zero_le _
 simp only [pro.need,prS,Bool.and_eq_true,z]
 exact ⟨⟨⟨⟨⟨⟨⟨⟨⟨⟨⟨GX (hx.c0.mono hj),GX (hx.c1.mono hj)⟩,GX (hx.c2.mono hj)⟩,GX (hx.c3.mono hj)⟩,GX (hy.c0.mono hk)⟩,GX (hy.c1.mono hk)⟩,GX (hy.c2.mono hk)⟩,GX (hy.c3.mono hk)⟩,trivial⟩,trivial⟩,trivial⟩,trivial⟩
theorem Bw.es (hx:x.Bd j) (hy:y.Bd k) (hj:j≤PRM) (hk:k≤PRM) (hd:x.d*y.d≠0):Bw (dI x.c0).1 (dI x.c0).2 (dI x.c1).1 (dI x.c1).2 (dI x.c2).1 (dI x.c2).2 (dI x.c3).1 (dI x.c3).2 (dI x.d).1 (dI x.d).2 (dI y.c0).1 (dI y.c0).2 (dI y.c1).1 (dI y.c1).2 (dI y.c2).1 (dI y.c2).2 (dI y.c3).1 (dI y.c3).2 (dI y.d).1 (dI y.d).2=C5 (low (qprod x y)):=by
 obtain ⟨e0,e1,e2,e3,e4,e5,e6,e7⟩:=QN (x:=x) (y:=y)
 unfold Bw
 rw [e0,e1,e2,e3,e4,e5,e6,e7,GV]
 exact Bc.es (q:=qprod x y) (ME hx hy) (by unfold LIM; unfold PRM at hj hk; omega) hd
end
end Go.Proofs.YtphlckkbihmlnaaGreatDoor.G
end
section
namespace Go.Proofs.YtphlckkbihmlnaaGreatDoor.G
set_option maxRecDepth 100000
open Go Go.Proofs RX
def qneg (x:Q):Q:=⟨-x.c0,-x.c1,-x.c2,-x.c3,x.d⟩
def qsum (x y:Q):Q:=⟨x.c0*y.d+y.c0*x.d,x.c1*y.d+y.c1*x.d,x.c2*y.d+y.c2*x.d,x.c3*y.d+y.c3*x.d,x.d*y.d⟩
def qadd (x y:Q):Q:=low (qsum x y)
def qsub (x y:Q):Q:=qadd x (qneg y)
def qmul (x y:Q):Q:=low (qprod x y)
def qof (n:Int):Q:=⟨n,0,0,0,1⟩
theorem L3 (n:Int):(qof n).ok=true:=by
 have:(qof n).g=1:=by
  show gg n 0 0 0 1=1
  unfold gg
  simp
 unfold Q.ok
 rw [this]
 rfl
theorem Q.ok_d {q:Q} (h:q.ok=true):0<q.d∧q.g=1:=by simpa [Q.ok] using h
theorem qneg_g (x:Q):(qneg x).g=x.g:=by
 show gg (-x.c0) (-x.c1) (-x.c2) (-x.c3) x.d=gg x.c0 x.c1 x.c2 x.c3 x.d
 unfold gg
 simp only [Int.gcd_neg]
theorem KR (x:Q):(qneg x).ok=x.ok:=by
 unfold Q.ok
 rw [qneg_g]
 rfl
theorem Nf {k:Nat} {x:Q} (h:x.Bd k):(qneg x).Bd k:=⟨h.c0.neg,h.c1.neg,h.c2.neg,h.c3.neg,h.d⟩
theorem Nd {j k:Nat} {x y:Q} (hx:x.Bd j) (hy:y.Bd k):(qsum x y).Bd (j+k+1):=
 ⟨(hx.c0.mul hy.d).add ((hy.c0.mul hx.d).mono (by omega)),(hx.c1.mul hy.d).add ((hy.c1.mul hx.d).mono (by omega)),(hx.c2.mul hy.d).add ((hy.c2.mul hx.d).mono (by omega)),(hx.c3.mul hy.d).add ((hy.c3.mul hx.d).mono (by omega)),(hx.d.mul hy.d).mono (by omega)⟩
theorem HB {x y:Q} (hx:x.ok=true) (hy:y.ok=true):x.d*y.d≠0:=by
 have h1:=(Q.ok_d hx).1
 have h2:=(Q.ok_d hy).1
 exact Int.mul_ne_zero (by omega) (by omega)
theorem Iq {x y:Q} (hx:x.ok=true) (hy:y.ok=true):(qadd x y).ok=true:=PT (q:=qsum x y) (HB hx hy)
theorem Fm {x y:Q} (hx:x.ok=true) (hy:y.ok=true):(qmul x y).ok=true:=PT (q:=qprod x y) (HB hx hy)
theorem Ln {j k:Nat} {x y:Q} (hx:x.Bd j) (hy:y.Bd k) (ox:x.ok=true) (oy:y.ok=true):(qadd x y).Bd (j+k+1):=No (Nd hx hy) (HB ox oy)
theorem Gl {j k:Nat} {x y:Q} (hx:x.Bd j) (hy:y.Bd k) (ox:x.ok=true) (oy:y.ok=true):(qmul x y).Bd (j+k+5):=No (ME hx hy) (HB ox oy)
theorem Kr:C5 Q.zero=(false,(⟨#[]⟩:ByteArray),false,⟨#[]⟩,false,⟨#[]⟩,false,⟨#[]⟩,false,⟨#[]⟩):=by simp only [C5,Q.zero,M0]
def mix (a b s:Int):Int:=if a=b∨b=0 then a else if a=0 then b else a*s
def sg2 (a b:Int):Int:=mix (sgn a) (sgn b) (sgn (a*a-2*(b*b)))
def sgz (c0 c1 c2 c3:Int):Int:=
 let p:=sg2 c0 c1; let q:=sg2 c2 c3
 if p=q∨q=0∨p=0 then mix p q 0 else
 mix p q (sg2 (1*(c0*c0)+2*(c1*c1)-(3*(c2*c2)+6*(c3*c3))) (2*(c0*c1)-6*(c2*c3)))
def Q.sg (x:Q):Int:=sgz x.c0 x.c1 x.c2 x.c3
theorem I1 (z:Int):sgn z= -1∨sgn z=0∨sgn z=1:=by unfold sgn; split; exact .inl rfl; split; exact .inr (.inl rfl); exact .inr (.inr rfl)
theorem R8 {a b s:Int} (ha:a= -1∨a=0∨a=1) (hb:b= -1∨b=0∨b=1) (hs:s= -1∨s=0∨s=1):mix a b s= -1∨mix a b s=0∨mix a b s=1:=by
 rcases ha with rfl|rfl|rfl<;>rcases hb with rfl|rfl|rfl<;>rcases hs with rfl|rfl|rfl<;>decide
theorem JW (a b:Int):sg2 a b= -1∨sg2 a b=0∨sg2 a b=1:=R8 (I1 _) (I1 _) (I1 _)
theorem Pv:Q.zero.ok=false:=rfl
theorem Hw (k:Nat):Q.zero.Bd k:=⟨Bd.zero k,Bd.zero k,Bd.zero k,Bd.zero k,Bd.zero k⟩
def cj2 (x:Q):Q:=⟨x.c0,x.c1,-x.c2,-x.c3,x.d⟩
def cj1 (x:Q):Q:=⟨x.c0,-x.c1,x.c2,-x.c3,x.d⟩
theorem cj2_g (x:Q):(cj2 x).g=x.g:=by
 show gg x.c0 x.c1 (-x.c2) (-x.c3) x.d=gg x.c0 x.c1 x.c2 x.c3 x.d
 unfold gg
 simp only [Int.gcd_neg]
theorem cj1_g (x:Q):(cj1 x).g=x.g:=by
 show gg x.c0 (-x.c1) x.c2 (-x.c3) x.d=gg x.c0 x.c1 x.c2 x.c3 x.d
 unfold gg
 simp only [Int.gcd_neg]
theorem LL (x:Q):(cj2 x).ok=x.ok:=by unfold Q.ok; rw [cj2_g]; rfl
theorem KD (x:Q):(cj1 x).ok=x.ok:=by unfold Q.ok; rw [cj1_g]; rfl
theorem Ss {k:Nat} {x:Q} (h:x.Bd k):(cj2 x).Bd k:=⟨h.c0,h.c1,h.c2.neg,h.c3.neg,h.d⟩
theorem Su {k:Nat} {x:Q} (h:x.Bd k):(cj1 x).Bd k:=⟨h.c0,h.c1.neg,h.c2,h.c3.neg,h.d⟩
def qtwo (y:Q):Q:=qmul y (cj2 y)
def qone (y:Q):Q:=qmul (qtwo y) (cj1 (qtwo y))
def qinv (y:Q):Q:=low ⟨(qone y).d,0,0,0,(qone y).c0⟩
def qdiv (x y:Q):Q:=qmul (qmul x (cj2 y)) (qmul (cj1 (qtwo y)) (qinv y))
theorem root2:∀(n:Nat) (a b:Int),a.natAbs+b.natAbs≤n→a*a=2*(b*b)→a=0∧b=0
  |0,a,b,h,_=>by omega
  | n + 1,a,b,h,e=>by
    have ha:a%2=0:=by
      have h1:(a*a)%2=0:=by rw [e]; omega
      rw [Int.mul_emod] at h1
      rcases Int.emod_two_eq a with h2|h2<;>rw [h2] at h1<;>omega
    obtain ⟨c,rfl⟩:=Int.dvd_of_emod_eq_zero ha
    have e2:b*b=2*(c*c):=by
      have:2*c*(2*c)=4*(c*c):=by grind
      omega
    by_cases hz:c=0∧b=0
    · obtain ⟨rfl,rfl⟩:=hz; exact ⟨rfl,rfl⟩
    · by_cases hc:c=0
      · subst hc
        have:b*b=0:=by omega
        exact ⟨rfl,(Int.mul_eq_zero.1 this).elim id id⟩
      · have:=root2 n b c (by omega) e2
        exact absurd this.2 hc
theorem Q6 (a:Int):(a*a)%3=0∨(a*a)%3=1:=by
 rw [Int.mul_emod]
 have h0:=Int.emod_nonneg a (show (3:Int)≠0 by decide)
 have h1:=Int.emod_lt_of_pos a (show (0:Int)<3 by decide)
 have:a%3=0∨a%3=1∨a%3=2:=by omega
 rcases this with h|h|h<;>rw [h]<;>decide
theorem KJ {a:Int} (h:(a*a)%3=0):a%3=0:=by
 rw [Int.mul_emod] at h
 have h0:=Int.emod_nonneg a (show (3:Int)≠0 by decide)
 have h1:=Int.emod_lt_of_pos a (show (0:Int)<3 by decide)
 have:a%3=0∨a%3=1∨a%3=2:=by omega
 rcases this with h'|h'|h'<;>rw [h'] at h<;>omega
theorem NG {a b:Int} (h:(a*a+2*(b*b))%3=0) (h':(a*b)%3=0):a%3=0∧b%3=0:=by
 have ha:=Q6 a
 have hb:=Q6 b
 have hab:((a*a)*(b*b))%3=0:=by
  have:(a*a)*(b*b)=(a*b)*(a*b):=by grind
  rw [this,Int.mul_emod,h']; rfl
 rw [Int.mul_emod] at hab
 rcases ha with ha|ha<;>rcases hb with hb|hb
 ·exact ⟨KJ ha,KJ hb⟩
 ·omega
 ·omega
 ·rw [ha,hb] at hab; omega
theorem root3:∀(n:Nat) (a b c d:Int),a.natAbs+b.natAbs+c.natAbs+d.natAbs≤n→a*a+2*(b*b)=3*(c*c)+6*(d*d)→a*b=3*(c*d)→a=0∧b=0∧c=0∧d=0
 |0,a,b,c,d,h,_,_=>by omega
 | n +1,a,b,c,d,h,e1,e2=>by
  have hab:=NG (a:=a) (b:=b) (by omega) (by omega)
  obtain ⟨a',rfl⟩:=Int.dvd_of_emod_eq_zero hab.1
  obtain ⟨b',rfl⟩:=Int.dvd_of_emod_eq_zero hab.2
  have q1:3*a'*(3*a')=9*(a'*a'):=by grind
  have q2:3*b'*(3*b')=9*(b'*b'):=by grind
  have q3:3*a'*(3*b')=9*(a'*b'):=by grind
  have hcd:=NG (a:=c) (b:=d) (by omega) (by omega)
  obtain ⟨c',rfl⟩:=Int.dvd_of_emod_eq_zero hcd.1
  obtain ⟨d',rfl⟩:=Int.dvd_of_emod_eq_zero hcd.2
  have q4:3*c'*(3*c')=9*(c'*c'):=by grind
  have q5:3*d'*(3*d')=9*(d'*d'):=by grind
  have q6:3*c'*(3*d')=9*(c'*d'):=by grind
  by_cases hz:a'=0∧b'=0∧c'=0∧d'=0
  ·obtain ⟨rfl,rfl,rfl,rfl⟩:=hz; exact ⟨rfl,rfl,rfl,rfl⟩
  ·have:=root3 n a' b' c' d' (by omega) (by omega) (by omega)
   exact absurd this hz
theorem low_c0 {q:Q} (hd:q.d≠0) (h:q.c0≠0):(low q).c0≠0:=by
 obtain ⟨_,⟨c,hc⟩,_⟩:=M9 q
 have hn:=OI hd
 show q.c0/sg_ q≠0
 rw [hc,Int.mul_ediv_cancel_left _ hn]
 rintro rfl
 rw [Int.mul_zero] at hc
 exact h hc
theorem LB {q:Q} (hd:q.d≠0):∃m:Int,m≠0∧q.c0=m*(low q).c0∧q.c1=m*(low q).c1∧q.c2=m*(low q).c2∧q.c3=m*(low q).c3∧q.d=m*(low q).d:=by
 obtain ⟨d,d0,d1,d2,d3⟩:=M9 q
 have hn:=OI hd
 have f:∀ {x:Int},sg_ q∣x→x=sg_ q*(x/sg_ q):=fun h=>(Int.mul_ediv_cancel' h).symm
 exact ⟨sg_ q,hn,f d0,f d1,f d2,f d3,f d⟩
theorem MD {y:Q} (oy:y.ok=true):∃m:Int,m≠0∧y.c0*y.c0+2*(y.c1*y.c1)-3*(y.c2*y.c2)-6*(y.c3*y.c3)=m*(qtwo y).c0∧2*(y.c0*y.c1)-6*(y.c2*y.c3)=m*(qtwo y).c1∧(qtwo y).c2=0∧(qtwo y).c3=0:=by
 have hd:=HB oy (show (cj2 y).ok=true from by rw [LL,oy])
 obtain ⟨m,hm,h0,h1,h2,h3,_⟩:=LB (q:=qprod y (cj2 y)) hd
 refine ⟨m,hm,?_,?_,?_,?_⟩
 ·show _=m*(low (qprod y (cj2 y))).c0
  rw [←h0]
  simp only [qprod,cj2,Int.mul_neg]
  omega
 ·show _=m*(low (qprod y (cj2 y))).c1
  rw [←h1]
  simp only [qprod,cj2,Int.mul_neg]
  rw [Int.mul_comm y.c1 y.c0,Int.mul_comm y.c3 y.c2]
  omega
 ·have e:(qprod y (cj2 y)).c2=0:=by
   simp only [qprod,cj2,Int.mul_neg]
   rw [Int.mul_comm y.c2 y.c0,Int.mul_comm y.c3 y.c1]
   omega
  rw [e] at h2
  rcases Int.mul_eq_zero.1 h2.symm with h|h
  ·exact absurd h hm
  ·exact h
 ·have e:(qprod y (cj2 y)).c3=0:=by
   simp only [qprod,cj2,Int.mul_neg]
   rw [Int.mul_comm y.c3 y.c0,Int.mul_comm y.c2 y.c1]
   omega
  rw [e] at h3
  rcases Int.mul_eq_zero.1 h3.symm with h|h
  ·exact absurd h hm
  ·exact h
theorem IG {y:Q} (oy:y.ok=true):(qtwo y).ok=true:=Fm oy (by rw [LL,oy])
theorem Ne {y:Q} (oy:y.ok=true):(qone y).ok=true:=Fm (IG oy) (by rw [KD,IG oy])
theorem Ip {y:Q} (oy:y.ok=true) (hy:¬(y.c0=0∧y.c1=0∧y.c2=0∧y.c3=0)):(qone y).c0≠0:=by
 obtain ⟨m,hm,h0,h1,h2,h3⟩:=MD oy
 have ot:=IG oy
 refine low_c0 (q:=qprod (qtwo y) (cj1 (qtwo y))) (HB ot (by rw [KD,ot])) fun hz=> ?_
 have e:(qtwo y).c0*(qtwo y).c0=2*((qtwo y).c1*(qtwo y).c1):=by
  simp only [qprod,cj1,h2,h3,Int.mul_neg,Int.mul_zero,Int.zero_mul,Int.neg_zero] at hz
  omega
 obtain ⟨z0,z1⟩:=root2 _ _ _ (Nat.le_refl _) e
 rw [z0,Int.mul_zero] at h0
 rw [z1,Int.mul_zero] at h1
 exact hy (root3 _ _ _ _ _ (Nat.le_refl _) (by omega) (by omega))
theorem Lm {y:Q} (oy:y.ok=true) (hy:¬(y.c0=0∧y.c1=0∧y.c2=0∧y.c3=0)):(qinv y).ok=true:=PT (q:=⟨(qone y).d,0,0,0,(qone y).c0⟩) (Ip oy hy)
theorem qdiv_ok {x y:Q} (ox:x.ok=true) (oy:y.ok=true) (hy:¬(y.c0=0∧y.c1=0∧y.c2=0∧y.c3=0)):(qdiv x y).ok=true:=
 Fm (Fm ox (by rw [LL,oy])) (Fm (by rw [KD,IG oy]) (Lm oy hy))
end Go.Proofs.YtphlckkbihmlnaaGreatDoor.G
end
section
namespace Go.Proofs.YtphlckkbihmlnaaGreatDoor.G
set_option maxRecDepth 100000
open Go
class Sg (R:Type) extends Add R,Mul R,Neg R,Sub R where
 o:R
 s:R→Int
 q_sc:∀x,s x= -1∨s x=0∨s x=1
 q_sz:∀x,s x=0→x=o
 q_so:s o=0
 q_sn:∀x,s (-x)= -s x
 q_sm:∀x y,s (x*y)=s x*s y
 q_sa:∀x y,s x=1→s y=1→s (x+y)=1
 q_add_o:∀x,x+o=x
 q_o_add:∀x,o+x=x
 q_sub_eq:∀x y:R,x-y=x+ -y
 q_neg_add:∀x y:R,-(x+y)= -x+ -y
section
variable {R:Type} [Sg R]
open Sg
theorem sgC (x:R):s x= -1∨s x=0∨s x=1:=q_sc x
theorem sgZ (x:R) (h:s x=0):x=o:=q_sz x h
theorem sgO:s (o:R)=0:=q_so
theorem sgN (x:R):s (-x)= -s x:=q_sn x
theorem sgM (x y:R):s (x*y)=s x*s y:=q_sm x y
theorem sgA (x y:R) (h:s x=1) (h':s y=1):s (x+y)=1:=q_sa x y h h'
theorem Mp (x:R):x+o=x:=q_add_o x
theorem ND (x:R):o+x=x:=q_o_add x
theorem NT (x y:R):x-y=x+ -y:=Sg.q_sub_eq (R:=R) x y
theorem neg_add (x y:R): -(x+y)= -x+ -y:=Sg.q_neg_add (R:=R) x y
end
structure Ri (R:Type) [Sg R] (r:R):Prop where
 i1:∀a b c d:R,(a+c)*(a+c)-r*((b+d)*(b+d))=(a*a-r*(b*b))+(c*c-r*(d*d))+((a*c-r*(b*d))+(a*c-r*(b*d)))
 i2:∀a b c d:R,(a*c-r*(b*d))*(a*c+r*(b*d))=a*a*(c*c-r*(d*d))+r*(d*d)*(a*a-r*(b*b))
 i3:∀x y:R,(x-y)+(x+y)=x+x
 i4:∀a b c d:R,(a*c+r*(b*d))*(a*c+r*(b*d))-r*((a*d+b*c)*(a*d+b*c))=(a*a-r*(b*b))*(c*c-r*(d*d))
 i6:∀a b:R,-a* -a-r*(-b* -b)=a*a-r*(b*b)
 i8:∀a b c d:R,(r*(b*d)-a*c)*(a*c+r*(b*d))=r*(b*b)* -(c*c-r*(d*d))+c*c* -(a*a-r*(b*b))
 i9:∀x y:R,(y-x)+(x+y)=y+y
 i10:∀a b c d:R,(a*d-b*c)*(a*d+b*c)*r=a*a* -(c*c-r*(d*d))+c*c*(a*a-r*(b*b))
 i11:∀a b c d:R,a*c+r*(b*d)=c*a+r*(d*b)∧a*d+b*c=c*b+d*a
 i12:∀a b c d:R,-((a+c)*(a+c)-r*((b+d)*(b+d)))= -(a*a-r*(b*b))+ -(c*c-r*(d*d))+((r*(b*d)-a*c)+(r*(b*d)-a*c))
 i13:∀x y:R,x+ -(x+y)= -y∧y+ -(x+y)= -x
 i14:∀x y:R,x+y=y+x
section
variable {R:Type} [Sg R]
open Sg
theorem KM {x:Int} (h:x= -1∨x=0∨x=1) (h0:0≤x):x=0∨x=1:=by omega
theorem HX {x y:R} (hx:0≤s x) (hy:0≤s y) (h:s x=1∨s y=1):s (x+y)=1:=by
 rcases KM (sgC x) hx with h1|h1<;>rcases KM (sgC y) hy with h2|h2
 ·omega
 ·rw [sgZ x h1,ND]; exact h2
 ·rw [sgZ y h2,Mp]; exact h1
 ·exact sgA x y h1 h2
theorem Fv (x:R):0≤s (x*x):=by
 rw [sgM]; rcases sgC x with h|h|h<;>rw [h]<;>decide
theorem s_sq {x:R} (h:s x≠0):s (x*x)=1:=by
 rw [sgM]; rcases sgC x with h1|h1|h1<;>rw [h1]
 ·rfl
 ·exact absurd h1 h
 ·rfl
theorem s_twice (x:R):s (x+x)=s x:=by
 rcases sgC x with h|h|h
 ·have h1:s (-x)=1:=by rw [sgN,h]; rfl
  have h2:=sgA _ _ h1 h1
  rw [←neg_add,sgN] at h2
  omega
 ·rw [sgZ x h,Mp]
 ·rw [sgA _ _ h h,h]
theorem PH {p q x:R} (h:s (p*q)=1) (e:p+q=x+x):s p=s x∧s q=s x:=by
 rw [sgM] at h
 have h1:=s_twice x
 rw [←e] at h1
 rcases sgC p with hp|hp|hp<;>rcases sgC q with hq|hq|hq<;>rw [hp,hq] at h<;>first|exact absurd h (by decide)|skip
 ·have h2:=sgA (-p) (-q) (by rw [sgN,hp]; rfl) (by rw [sgN,hq]; rfl)
  rw [←neg_add,sgN] at h2
  omega
 ·have h2:=sgA p q hp hq
  omega
variable (r:R)
def nm_ (a b:R):R:=a*a-r*(b*b)
def sx (a b:R):Int:=mix (s a) (s b) (s (a*a-r*(b*b)))
variable {r}
variable (hr:s r=1)
include hr
theorem HM {a b:R} (h:s (nm_ r a b)=1):sx r a b=s a∧s a≠0:=by
 have ha:s a≠0:=fun h0=>by
  have h1:s (a*a)=0:=by rw [sgM,h0]; rfl
  unfold nm_ at h
  rw [NT,sgZ _ h1,ND,sgN,sgM,hr] at h
  have:=Fv b
  omega
 refine ⟨?_,ha⟩
 unfold sx mix
 unfold nm_ at h
 rw [h]
 split
 ·rfl
 ·simp only [ha,if_false,Int.mul_one]
theorem H4 {a b:R} (h:s (nm_ r a b)= -1):sx r a b=s b∧s b≠0:=by
 have hb:s b≠0:=fun h0=>by
  have h1:s (-(r*(b*b)))=0:=by rw [sgN,sgM,sgM,h0,Int.mul_zero,Int.mul_zero]; rfl
  unfold nm_ at h
  rw [NT,sgZ _ h1,Mp] at h
  have:=Fv a
  omega
 refine ⟨?_,hb⟩
 unfold sx mix
 unfold nm_ at h
 rw [h]
 have ca:=sgC a
 have cb:=sgC b
 split
 ·omega
 ·split
  ·rfl
  ·omega
variable (nsq:∀a b:R,s (nm_ r a b)=0→a=o∧b=o)
include nsq
omit hr in
theorem Gg {a b:R} (h:s (nm_ r a b)=0):sx r a b=0:=by
 obtain ⟨rfl,rfl⟩:=nsq a b h
 unfold sx mix
 rw [sgO]
 rfl
theorem Rd (a b:R):sx r a b= -1∨sx r a b=0∨sx r a b=1:=by
 rcases sgC (nm_ r a b) with h|h|h
 ·rw [(H4 hr h).1]; exact sgC b
 ·rw [Gg nsq h]; exact .inr (.inl rfl)
 ·rw [(HM hr h).1]; exact sgC a
theorem Q1 {a b:R} (h:sx r a b=0):a=o∧b=o:=by
 rcases sgC (nm_ r a b) with h1|h1|h1
 ·have:=H4 hr h1; omega
 ·exact nsq a b h1
 ·have:=HM hr h1; omega
variable (ri:Ri R r)
include ri
omit hr nsq in
theorem Ra (a b:R):sx r (-a) (-b)= -sx r a b:=by
 unfold sx
 rw [ri.i6,sgN,sgN]
 rcases sgC a with h1|h1|h1<;>rcases sgC b with h2|h2|h2<;>rw [h1,h2]<;>simp [mix]
omit nsq in
theorem x_pp {a b c d:R} (h1:s (nm_ r a b)=1) (h2:s (nm_ r c d)=1):s (a*c-r*(b*d))=s (a*c)∧s (a*c+r*(b*d))=s (a*c):=by
 refine PH ?_ (ri.i3 _ _)
 rw [ri.i2]
 refine HX ?_ ?_ (.inl ?_)
 ·rw [sgM,show s (c*c-r*(d*d))=1 from h2,Int.mul_one]; exact Fv a
 ·rw [sgM,sgM,hr,show s (a*a-r*(b*b))=1 from h1,Int.one_mul,Int.mul_one]; exact Fv d
 ·rw [sgM,show s (c*c-r*(d*d))=1 from h2,s_sq (HM hr h1).2]; rfl
omit nsq in
theorem x_nn {a b c d:R} (h1:s (nm_ r a b)= -1) (h2:s (nm_ r c d)= -1):s (r*(b*d)-a*c)=s (b*d)∧s (a*c+r*(b*d))=s (b*d):=by
 have e:s (r*(b*d))=s (b*d):=by rw [sgM,hr,Int.one_mul]
 rw [←e]
 refine PH ?_ (ri.i9 _ _)
 rw [ri.i8]
 have e1:s (-(c*c-r*(d*d)))=1:=by rw [sgN,show s (c*c-r*(d*d))= -1 from h2]; rfl
 have e2:s (-(a*a-r*(b*b)))=1:=by rw [sgN,show s (a*a-r*(b*b))= -1 from h1]; rfl
 refine HX ?_ ?_ (.inl ?_)
 ·rw [sgM,sgM,hr,e1,Int.one_mul,Int.mul_one]; exact Fv b
 ·rw [sgM,e2,Int.mul_one]; exact Fv c
 ·rw [sgM,sgM,hr,e1,s_sq (H4 hr h1).2]; rfl
omit nsq in
theorem x_pn {a b c d:R} (h1:s (nm_ r a b)=1) (h2:s (nm_ r c d)= -1):s (a*d+b*c)=s (a*d):=by
 refine (PH (p:=a*d-b*c) ?_ (ri.i3 _ _)).2
 have e1:s (-(c*c-r*(d*d)))=1:=by rw [sgN,show s (c*c-r*(d*d))= -1 from h2]; rfl
 have e:s ((a*d-b*c)*(a*d+b*c)*r)=1:=by
  rw [ri.i10]
  refine HX ?_ ?_ (.inl ?_)
  ·rw [sgM,e1,Int.mul_one]; exact Fv a
  ·rw [sgM,show s (a*a-r*(b*b))=1 from h1,Int.mul_one]; exact Fv c
  ·rw [sgM,e1,s_sq (HM hr h1).2]; rfl
 rw [sgM,hr,Int.mul_one] at e
 exact e
theorem Rb (a b c d:R):sx r (a*c+r*(b*d)) (a*d+b*c)=sx r a b*sx r c d:=by
 have hn:s (nm_ r (a*c+r*(b*d)) (a*d+b*c))=s (nm_ r a b)*s (nm_ r c d):=by
  show s ((a*c+r*(b*d))*(a*c+r*(b*d))-r*((a*d+b*c)*(a*d+b*c)))=_
  rw [ri.i4,sgM]; rfl
 rcases sgC (nm_ r a b) with h1|h1|h1<;>rcases sgC (nm_ r c d) with h2|h2|h2<;>rw [h1,h2] at hn
 ·rw [(HM hr hn).1,(H4 hr h1).1,(H4 hr h2).1,(x_nn hr ri h1 h2).2,sgM]
 ·rw [Gg nsq hn,Gg nsq h2,Int.mul_zero]
 ·rw [(H4 hr hn).1,(H4 hr h1).1,(HM hr h2).1,(ri.i11 a b c d).2,x_pn hr ri h2 h1,sgM,Int.mul_comm]
 ·rw [Gg nsq hn,Gg nsq h1,Int.zero_mul]
 ·rw [Gg nsq hn,Gg nsq h1,Int.zero_mul]
 ·rw [Gg nsq hn,Gg nsq h1,Int.zero_mul]
 ·rw [(H4 hr hn).1,(HM hr h1).1,(H4 hr h2).1,x_pn hr ri h1 h2,sgM]
 ·rw [Gg nsq hn,Gg nsq h2,Int.mul_zero]
 ·rw [(HM hr hn).1,(HM hr h1).1,(HM hr h2).1,(x_pp hr ri h1 h2).2,sgM]
omit nsq in
theorem n_pp {a b c d:R} (h1:s (nm_ r a b)=1) (h2:s (nm_ r c d)=1) (ha:s a=1) (hc:s c=1):s (nm_ r (a+c) (b+d))=1:=by
 have e:s (a*c-r*(b*d))=1:=by rw [(x_pp hr ri h1 h2).1,sgM,ha,hc]; rfl
 show s ((a+c)*(a+c)-r*((b+d)*(b+d)))=1
 rw [ri.i1]
 exact sgA _ _ (sgA _ _ h1 h2) (sgA _ _ e e)
omit nsq in
theorem n_nn {a b c d:R} (h1:s (nm_ r a b)= -1) (h2:s (nm_ r c d)= -1) (hb:s b=1) (hd:s d=1):s (nm_ r (a+c) (b+d))= -1:=by
 have e:s (r*(b*d)-a*c)=1:=by rw [(x_nn hr ri h1 h2).1,sgM,hb,hd]; rfl
 have e1:s (-(c*c-r*(d*d)))=1:=by rw [sgN,show s (c*c-r*(d*d))= -1 from h2]; rfl
 have e2:s (-(a*a-r*(b*b)))=1:=by rw [sgN,show s (a*a-r*(b*b))= -1 from h1]; rfl
 have h3:s (-((a+c)*(a+c)-r*((b+d)*(b+d))))=1:=by
  rw [ri.i12]
  exact sgA _ _ (sgA _ _ e2 e1) (sgA _ _ e e)
 rw [sgN] at h3
 show s ((a+c)*(a+c)-r*((b+d)*(b+d)))= -1
 omega
theorem N6 {a b c d:R} (h1:s (nm_ r a b)=1) (h2:s (nm_ r c d)= -1) (ha:s a=1) (hd:s d=1):sx r (a+c) (b+d)=1:=by
 have ng:∀x y:R,nm_ r (-x) (-y)=nm_ r x y:=fun x y=>ri.i6 x y
 rcases sgC (nm_ r (a+c) (b+d)) with h|h|h
 ·obtain ⟨e,hne⟩:=H4 hr h
  rw [e]
  rcases sgC (b+d) with h3|h3|h3
  ·have h4:=n_nn hr ri h2 (c:= -(a+c)) (d:= -(b+d)) (by rw [ng]; exact h) hd (by rw [sgN,h3]; rfl)
   rw [(ri.i13 a c).2,(ri.i13 b d).2,ng] at h4
   omega
  ·omega
  ·exact h3
 ·obtain ⟨e1,e2⟩:=nsq _ _ h
  have f1:=(ri.i13 a c).2
  have f2:=(ri.i13 b d).2
  rw [e1] at f1
  rw [e2] at f2
  have no:(-(o:R))=o:=sgZ _ (by rw [sgN,sgO]; rfl)
  rw [no,Mp] at f1 f2
  rw [f1,f2,ng] at h2
  omega
 ·obtain ⟨e,hne⟩:=HM hr h
  rw [e]
  rcases sgC (a+c) with h3|h3|h3
  ·have h4:=n_pp hr ri h1 (c:= -(a+c)) (d:= -(b+d)) (by rw [ng]; exact h) ha (by rw [sgN,h3]; rfl)
   rw [(ri.i13 a c).1,(ri.i13 b d).1,ng] at h4
   omega
  ·omega
  ·exact h3
theorem Rf {a b c d:R} (hz:sx r a b=1) (hw:sx r c d=1):sx r (a+c) (b+d)=1:=by
 rcases sgC (nm_ r a b) with h1|h1|h1
 ·have e1:=H4 hr h1
  rcases sgC (nm_ r c d) with h2|h2|h2
  ·have e2:=H4 hr h2
   rw [(H4 hr (n_nn hr ri h1 h2 (by omega) (by omega))).1]
   exact sgA _ _ (by omega) (by omega)
  ·have:=Gg nsq h2; omega
  ·have e2:=HM hr h2
   rw [ri.i14 a c,ri.i14 b d]
   exact N6 hr nsq ri h2 h1 (by omega) (by omega)
 ·have:=Gg nsq h1; omega
 ·have e1:=HM hr h1
  rcases sgC (nm_ r c d) with h2|h2|h2
  ·have e2:=H4 hr h2
   exact N6 hr nsq ri h1 h2 (by omega) (by omega)
  ·have:=Gg nsq h2; omega
  ·have e2:=HM hr h2
   rw [(HM hr (n_pp hr ri h1 h2 (by omega) (by omega))).1]
   exact sgA _ _ (by omega) (by omega)
end
instance:Sg Int where
 o:=0
 s:=sgn
 q_sc:=I1
 q_sz x h:=by unfold sgn at h; split at h; omega; split at h; assumption; omega
 q_so:=rfl
 q_sn x:=by unfold sgn; split<;>split<;>(try split)<;>(try split)<;>omega
 q_sm x y:=by
  rcases Int.lt_trichotomy x 0 with h|h|h<;>rcases Int.lt_trichotomy y 0 with h'|h'|h'
  ·have:=Int.mul_pos_of_neg_of_neg h h'; simp [sgn,h,h',show ¬x*y<0 by omega,show x*y≠0 by omega]
  ·subst h'; simp [sgn]
  ·have:=Int.mul_neg_of_neg_of_pos h h'; simp [sgn,h,show ¬y<0 by omega,show y≠0 by omega,this]
  ·subst h; simp [sgn]
  ·subst h; simp [sgn]
  ·subst h; simp [sgn]
  ·have:=Int.mul_neg_of_pos_of_neg h h'; simp [sgn,h',show ¬x<0 by omega,show x≠0 by omega,this]
  ·subst h'; simp [sgn]
  ·have:=Int.mul_pos h h'; simp [sgn,show ¬x<0 by omega,show x≠0 by omega,show ¬y<0 by omega,show y≠0 by omega,show ¬x*y<0 by omega,show x*y≠0 by omega]
 q_sa x y h h':=by unfold sgn at h h' ⊢; split at h<;>split at h'<;>(try split at h)<;>(try split at h')<;>(try split)<;>(try split)<;>omega
 q_add_o:=Int.add_zero
 q_o_add:=Int.zero_add
 q_sub_eq x y:=Int.sub_eq_add_neg
 q_neg_add x y:=Int.neg_add
theorem PJ (r:Int):Ri Int r where
 i1:=by intros; grind
 i2:=by intros; grind
 i3:=by intros; grind
 i4:=by intros; grind
 i6:=by intros; grind
 i8:=by intros; grind
 i9:=by intros; grind
 i10:=by intros; grind
 i11:=by intros; constructor<;>grind
 i12:=by intros; grind
 i13:=by intros; constructor<;>grind
 i14:=by intros; grind
end Go.Proofs.YtphlckkbihmlnaaGreatDoor.G
end
section
namespace Go.Proofs.YtphlckkbihmlnaaGreatDoor.G
set_option maxRecDepth 100000
open Go
structure Z2 where
 a:Int
 b:Int
theorem Z2.ext' {x y:Z2} (h:x.a=y.a) (h':x.b=y.b):x=y:=by
 cases x; cases y; simp only at h h'; rw [h,h']
instance:Add Z2:=⟨fun x y=>⟨x.a+y.a,x.b+y.b⟩⟩
instance:Mul Z2:=⟨fun x y=>⟨x.a*y.a+2*(x.b*y.b),x.a*y.b+x.b*y.a⟩⟩
instance:Neg Z2:=⟨fun x=>⟨-x.a,-x.b⟩⟩
instance:Sub Z2:=⟨fun x y=>⟨x.a-y.a,x.b-y.b⟩⟩
@[simp] theorem z2a_add (x y:Z2):(x+y).a=x.a+y.a:=rfl
@[simp] theorem z2b_add (x y:Z2):(x+y).b=x.b+y.b:=rfl
@[simp] theorem z2a_mul (x y:Z2):(x*y).a=x.a*y.a+2*(x.b*y.b):=rfl
@[simp] theorem z2b_mul (x y:Z2):(x*y).b=x.a*y.b+x.b*y.a:=rfl
@[simp] theorem z2a_neg (x:Z2):(-x).a= -x.a:=rfl
@[simp] theorem z2b_neg (x:Z2):(-x).b= -x.b:=rfl
@[simp] theorem z2a_sub (x y:Z2):(x-y).a=x.a-y.a:=rfl
@[simp] theorem z2b_sub (x y:Z2):(x-y).b=x.b-y.b:=rfl
theorem nsq2 (a b:Int) (h:Sg.s (nm_ (2:Int) a b)=0):a=Sg.o∧b=Sg.o:=by
 have h1:a*a-2*(b*b)=0:=sgZ (R:=Int) _ h
 exact root2 _ a b (Nat.le_refl _) (by omega)
instance:Sg Z2 where
 o:=⟨0,0⟩
 s x:=sg2 x.a x.b
 q_sc x:=JW x.a x.b
 q_sz x h:=by
  obtain ⟨h1,h2⟩:=Q1 (R:=Int) (r:=2) (a:=x.a) (b:=x.b) rfl nsq2 h
  exact Z2.ext' h1 h2
 q_so:=rfl
 q_sn x:=Ra (R:=Int) (r:=2) (PJ 2) x.a x.b
 q_sm x y:=Rb (R:=Int) (r:=2) rfl nsq2 (PJ 2) x.a x.b y.a y.b
 q_sa x y h h':=Rf (R:=Int) (r:=2) rfl nsq2 (PJ 2) (a:=x.a) (b:=x.b) (c:=y.a) (d:=y.b) h h'
 q_add_o x:=Z2.ext' (Int.add_zero _) (Int.add_zero _)
 q_o_add x:=Z2.ext' (Int.zero_add _) (Int.zero_add _)
 q_sub_eq x y:=Z2.ext' Int.sub_eq_add_neg Int.sub_eq_add_neg
 q_neg_add x y:=Z2.ext' Int.neg_add Int.neg_add
theorem s_z2 (x:Z2):Sg.s x=sg2 x.a x.b:=rfl
theorem Rw (r:Z2):Ri Z2 r where
 i1:=by intros; refine Z2.ext' ?_ ?_<;>simp<;>grind
 i2:=by intros; refine Z2.ext' ?_ ?_<;>simp<;>grind
 i3:=by intros; refine Z2.ext' ?_ ?_<;>simp<;>grind
 i4:=by intros; refine Z2.ext' ?_ ?_<;>simp<;>grind
 i6:=by intros; refine Z2.ext' ?_ ?_<;>simp<;>grind
 i8:=by intros; refine Z2.ext' ?_ ?_<;>simp<;>grind
 i9:=by intros; refine Z2.ext' ?_ ?_<;>simp<;>grind
 i10:=by intros; refine Z2.ext' ?_ ?_<;>simp<;>grind
 i11:=by intros; constructor<;>refine Z2.ext' ?_ ?_<;>simp<;>grind
 i12:=by intros; refine Z2.ext' ?_ ?_<;>simp<;>grind
 i13:=by intros; constructor<;>refine Z2.ext' ?_ ?_<;>simp<;>grind
 i14:=by intros; refine Z2.ext' ?_ ?_<;>simp<;>grind
structure Z6 where
 p:Z2
 q:Z2
theorem Z6.ext' {x y:Z6} (h:x.p=y.p) (h':x.q=y.q):x=y:=by
 cases x; cases y; simp only at h h'; rw [h,h']
theorem Z6.ext4 {x y:Z6} (h0:x.p.a=y.p.a) (h1:x.p.b=y.p.b) (h2:x.q.a=y.q.a) (h3:x.q.b=y.q.b):x=y:=Z6.ext' (Z2.ext' h0 h1) (Z2.ext' h2 h3)
abbrev thr:Z2:=⟨3,0⟩
instance:Add Z6:=⟨fun x y=>⟨x.p+y.p,x.q+y.q⟩⟩
instance:Mul Z6:=⟨fun x y=>⟨x.p*y.p+thr*(x.q*y.q),x.p*y.q+x.q*y.p⟩⟩
instance:Neg Z6:=⟨fun x=>⟨-x.p,-x.q⟩⟩
instance:Sub Z6:=⟨fun x y=>⟨x.p-y.p,x.q-y.q⟩⟩
@[simp] theorem z6p_add (x y:Z6):(x+y).p=x.p+y.p:=rfl
@[simp] theorem z6q_add (x y:Z6):(x+y).q=x.q+y.q:=rfl
@[simp] theorem z6p_mul (x y:Z6):(x*y).p=x.p*y.p+thr*(x.q*y.q):=rfl
@[simp] theorem z6q_mul (x y:Z6):(x*y).q=x.p*y.q+x.q*y.p:=rfl
@[simp] theorem z6p_neg (x:Z6):(-x).p= -x.p:=rfl
@[simp] theorem z6q_neg (x:Z6):(-x).q= -x.q:=rfl
theorem nsq3 (p q:Z2) (h:Sg.s (nm_ thr p q)=0):p=Sg.o∧q=Sg.o:=by
 have h1:p*p-thr*(q*q)=Sg.o:=sgZ (R:=Z2) _ h
 have h2:(p*p-thr*(q*q)).a=0:=by rw [h1]; rfl
 have h3:(p*p-thr*(q*q)).b=0:=by rw [h1]; rfl
 simp at h2 h3
 obtain ⟨e0,e1,e2,e3⟩:=root3 _ p.a p.b q.a q.b (Nat.le_refl _) (by omega) (by have:=Int.mul_comm p.b p.a; have:=Int.mul_comm q.b q.a; omega)
 exact ⟨Z2.ext' e0 e1,Z2.ext' e2 e3⟩
theorem QD:Sg.s thr=1:=by decide
theorem J9 (c0 c1 c2 c3:Int):sx thr ⟨c0,c1⟩ ⟨c2,c3⟩=sgz c0 c1 c2 c3:=by
 unfold sx sgz
 have e0:Sg.s (⟨c0,c1⟩:Z2)=sg2 c0 c1:=rfl
 have e1:Sg.s (⟨c2,c3⟩:Z2)=sg2 c2 c3:=rfl
 have e2:Sg.s ((⟨c0,c1⟩:Z2)*⟨c0,c1⟩-thr*((⟨c2,c3⟩:Z2)*⟨c2,c3⟩))=sg2 (1*(c0*c0)+2*(c1*c1)-(3*(c2*c2)+6*(c3*c3))) (2*(c0*c1)-6*(c2*c3)):=by
  rw [s_z2]
  congr 1
  ·simp; omega
  ·simp
   have:=Int.mul_comm c1 c0
   have:=Int.mul_comm c3 c2
   omega
 rw [e0,e1,e2]
 simp only
 generalize sg2 c0 c1=a
 generalize sg2 c2 c3=b
 by_cases h:a=b∨b=0∨a=0
 ·rw [if_pos h]
  unfold mix
  rcases h with h|h|h
  ·simp [h]
  ·simp [h]
  ·subst h; by_cases h1:b=0
   ·simp [h1]
   ·simp [h1]
 ·rw [if_neg h]
instance:Sg Z6 where
 o:=⟨⟨0,0⟩,⟨0,0⟩⟩
 s x:=sgz x.p.a x.p.b x.q.a x.q.b
 q_sc x:=by rw [←J9]; exact Rd QD nsq3 _ _
 q_sz x h:=by
  rw [←J9] at h
  obtain ⟨h1,h2⟩:=Q1 QD nsq3 h
  exact Z6.ext' h1 h2
 q_so:=rfl
 q_sn x:=by rw [←J9,←J9]; exact Ra (Rw thr) x.p x.q
 q_sm x y:=by rw [←J9,←J9,←J9]; exact Rb QD nsq3 (Rw thr) x.p x.q y.p y.q
 q_sa x y h h':=by rw [←J9] at h h' ⊢; exact Rf QD nsq3 (Rw thr) (a:=x.p) (b:=x.q) (c:=y.p) (d:=y.q) h h'
 q_add_o x:=Z6.ext4 (Int.add_zero _) (Int.add_zero _) (Int.add_zero _) (Int.add_zero _)
 q_o_add x:=Z6.ext4 (Int.zero_add _) (Int.zero_add _) (Int.zero_add _) (Int.zero_add _)
 q_sub_eq x y:=Z6.ext4 Int.sub_eq_add_neg Int.sub_eq_add_neg Int.sub_eq_add_neg Int.sub_eq_add_neg
 q_neg_add x y:=Z6.ext4 Int.neg_add Int.neg_add Int.neg_add Int.neg_add
theorem Z6.mul_comm (x y:Z6):x*y=y*x:=by refine Z6.ext4 ?_ ?_ ?_ ?_<;>simp<;>grind
theorem Z6.mul_assoc (x y z:Z6):x*y*z=x*(y*z):=by refine Z6.ext4 ?_ ?_ ?_ ?_<;>simp<;>grind
theorem Z6.add_comm (x y:Z6):x+y=y+x:=by refine Z6.ext4 ?_ ?_ ?_ ?_<;>simp<;>grind
theorem Z6.add_assoc (x y z:Z6):x+y+z=x+(y+z):=by refine Z6.ext4 ?_ ?_ ?_ ?_<;>simp<;>grind
theorem Z6.add_mul (x y z:Z6):(x+y)*z=x*z+y*z:=by refine Z6.ext4 ?_ ?_ ?_ ?_<;>simp<;>grind
theorem Z6.neg_mul (x y:Z6): -x*y= -(x*y):=by refine Z6.ext4 ?_ ?_ ?_ ?_<;>simp<;>grind
theorem Z6.add_neg (x:Z6):x+ -x=Sg.o:=by refine Z6.ext4 ?_ ?_ ?_ ?_<;>simp [Sg.o]<;>omega
instance:Std.Commutative (α:=Z6) (· * ·):=⟨Z6.mul_comm⟩
instance:Std.Associative (α:=Z6) (· * ·):=⟨Z6.mul_assoc⟩
instance:Std.Commutative (α:=Z6) (· + ·):=⟨Z6.add_comm⟩
instance:Std.Associative (α:=Z6) (· + ·):=⟨Z6.add_assoc⟩
def zi (n:Int):Z6:=⟨⟨n,0⟩,⟨0,0⟩⟩
theorem M1 (m n:Int):zi (m*n)=zi m*zi n:=by refine Z6.ext4 ?_ ?_ ?_ ?_<;>simp [zi]
theorem Ju (m n:Int):zi (m+n)=zi m+zi n:=by refine Z6.ext4 ?_ ?_ ?_ ?_<;>simp [zi]
theorem RR (m:Int):zi (-m)= -zi m:=by refine Z6.ext4 ?_ ?_ ?_ ?_<;>simp [zi]
theorem zi_one (x:Z6):zi 1*x=x:=by refine Z6.ext4 ?_ ?_ ?_ ?_<;>simp [zi]
theorem S9 (x:Z6):x*zi 1=x:=by rw [Z6.mul_comm,zi_one]
theorem s_zi (n:Int):Sg.s (zi n)=sgn n:=by
 show sgz n 0 0 0=sgn n
 have h0:sg2 0 0=0:=by decide
 have h1:sg2 n 0=sgn n:=by unfold sg2 mix; simp [show sgn 0=0 from rfl]
 unfold sgz
 simp only [h0,h1]
 unfold mix
 simp
theorem KL {n:Int} :sgn n=1↔0<n:=by unfold sgn; split; omega; split<;>omega
theorem OH {n:Int} :sgn n= -1↔n<0:=by unfold sgn; split; omega; split<;>omega
theorem OG {n:Int} :sgn n=0↔n=0:=by unfold sgn; split; omega; split<;>omega
theorem Ks {k x y:Z6} (hk:Sg.s k≠0) (h:k*x=k*y):x=y:=by
 have e:k*(x+ -y)=Sg.o:=by
  rw [Z6.mul_comm,Z6.add_mul,Z6.neg_mul,Z6.mul_comm x,Z6.mul_comm y,h,Z6.add_neg]
 have h1:Sg.s k*Sg.s (x+ -y)=0:=by rw [←sgM,e,sgO]
 have h2:Sg.s (x+ -y)=0:=(Int.mul_eq_zero.1 h1).resolve_left hk
 have h3:=sgZ _ h2
 calc x=x+(-y+y):=by rw [Z6.add_comm (-y) y,Z6.add_neg,Mp]
  _=(x+ -y)+y:=by rw [Z6.add_assoc]
  _=y:=by rw [h3,ND]
def wv (q:Q):Z6:=⟨⟨q.c0,q.c1⟩,⟨q.c2,q.c3⟩⟩
theorem sg_wv (q:Q):q.sg=Sg.s (wv q):=rfl
structure Rep (q:Q) (u v:Z6):Prop where
 nz:Sg.s v≠0
 eq:wv q*v=u*zi q.d
theorem Gs {q:Q} (h:q.ok=true):Sg.s (zi q.d)=1:=by rw [s_zi]; exact KL.2 (Q.ok_d h).1
theorem Rep.self {q:Q} (h:q.ok=true):Rep q (wv q) (zi q.d):=⟨by rw [Gs h]; decide,rfl⟩
theorem Rep.conv {q:Q} {u v u' v':Z6} (h:Rep q u v) (hv:Sg.s v'≠0) (e:u*v'=u'*v):Rep q u' v':=by
 refine ⟨hv,Ks h.nz ?_⟩
 have h1:=h.eq
 calc v*(wv q*v')=(wv q*v)*v':=by ac_rfl
  _=u*zi q.d*v':=by rw [h1]
  _=(u*v')*zi q.d:=by ac_rfl
  _=v*(u'*zi q.d):=by rw [e]; ac_rfl
theorem Rep.sg {q:Q} {u v:Z6} (h:Rep q u v) (ok:q.ok=true):q.sg=Sg.s u*Sg.s v:=by
 have h1:=congrArg Sg.s h.eq
 rw [sgM,sgM,Gs ok,Int.mul_one] at h1
 rw [sg_wv]
 have h2:=h.nz
 rcases sgC v with h3|h3|h3
 ·rw [h3] at h1 ⊢; omega
 ·omega
 ·rw [h3] at h1 ⊢; omega
theorem Nn {q:Q} (hd:q.d≠0) {u v:Z6} (hv:Sg.s v≠0) (e:wv q*v=u*zi q.d):Rep (low q) u v:=by
 obtain ⟨m,hm,e0,e1,e2,e3,e4⟩:=LB hd
 have hw:wv q=zi m*wv (low q):=by refine Z6.ext4 ?_ ?_ ?_ ?_<;>simp [zi,wv]<;>assumption
 have hz:zi q.d=zi m*zi (low q).d:=by rw [←M1,←e4]
 refine ⟨hv,Ks (k:=zi m) (by rw [s_zi]; exact fun h=>hm (OG.1 h)) ?_⟩
 calc zi m*(wv (low q)*v)=wv q*v:=by rw [hw]; ac_rfl
  _=u*(zi m*zi (low q).d):=by rw [e,hz]
  _=zi m*(u*zi (low q).d):=by ac_rfl
theorem wv_prod (x y:Q):wv (qprod x y)=wv x*wv y:=by
 refine Z6.ext4 ?_ ?_ ?_ ?_<;>simp [wv,qprod]<;>grind
theorem Ib {x y:Z6} (hx:Sg.s x≠0) (hy:Sg.s y≠0):Sg.s (x*y)≠0:=by
 rw [sgM]; exact Int.mul_ne_zero hx hy
theorem Rep.mul {x y:Q} {u v u' v':Z6} (hx:Rep x u v) (hy:Rep y u' v') (ox:x.ok=true) (oy:y.ok=true):Rep (qmul x y) (u*u') (v*v'):=by
 refine Nn (q:=qprod x y) (HB ox oy) (Ib hx.nz hy.nz) ?_
 rw [wv_prod,show (qprod x y).d=x.d*y.d from rfl,M1]
 calc wv x*wv y*(v*v')=(wv x*v)*(wv y*v'):=by ac_rfl
  _=u*zi x.d*(u'*zi y.d):=by rw [hx.eq,hy.eq]
  _=u*u'*(zi x.d*zi y.d):=by ac_rfl
theorem wv_sum (x y:Q):wv (qsum x y)=wv x*zi y.d+wv y*zi x.d:=by
 refine Z6.ext4 ?_ ?_ ?_ ?_<;>simp [wv,qsum,zi]
theorem Rep.add {x y:Q} {u v u' v':Z6} (hx:Rep x u v) (hy:Rep y u' v') (ox:x.ok=true) (oy:y.ok=true):Rep (qadd x y) (u*v'+u'*v) (v*v'):=by
 refine Nn (q:=qsum x y) (HB ox oy) (Ib hx.nz hy.nz) ?_
 rw [wv_sum,show (qsum x y).d=x.d*y.d from rfl,M1,Z6.add_mul,Z6.add_mul]
 have e1:wv x*zi y.d*(v*v')=u*v'*(zi x.d*zi y.d):=by
  calc wv x*zi y.d*(v*v')=(wv x*v)*(zi y.d*v'):=by ac_rfl
   _=_:=by rw [hx.eq]; ac_rfl
 have e2:wv y*zi x.d*(v*v')=u'*v*(zi x.d*zi y.d):=by
  calc wv y*zi x.d*(v*v')=(wv y*v')*(zi x.d*v):=by ac_rfl
   _=_:=by rw [hy.eq]; ac_rfl
 rw [e1,e2]
theorem wv_neg (x:Q):wv (qneg x)= -wv x:=rfl
theorem Rep.neg {x:Q} {u v:Z6} (h:Rep x u v):Rep (qneg x) (-u) v:=by
 refine ⟨h.nz,?_⟩
 rw [wv_neg,Z6.neg_mul,Z6.neg_mul,h.eq]; rfl
theorem Rep.of (n:Int):Rep (qof n) (zi n) (zi 1):=⟨by rw [s_zi]; decide,rfl⟩
theorem Rep.sub {x y:Q} {u v u' v':Z6} (hx:Rep x u v) (hy:Rep y u' v') (ox:x.ok=true) (oy:y.ok=true):Rep (qsub x y) (u*v'+ -u'*v) (v*v'):=hx.add hy.neg ox (by rw [KR,oy])
theorem S3 {y:Q} (oy:y.ok=true):wv (qone y)=zi (qone y).c0:=by
 obtain ⟨m,hm,h0,h1,h2,h3⟩:=MD oy
 have ot:=IG oy
 obtain ⟨k,hk,e0,e1,e2,e3,e4⟩:=LB (q:=qprod (qtwo y) (cj1 (qtwo y))) (HB ot (by rw [KD,ot]))
 have z:∀ {a b:Int},a=0→a=k*b→b=0:=fun h h'=>by
  rw [h] at h'
  exact (Int.mul_eq_zero.1 h'.symm).resolve_left hk
 have f1:=z (by simp only [qprod,cj1,h2,h3]; grind) e1
 have f2:=z (by simp only [qprod,cj1,h2,h3]; grind) e2
 have f3:=z (by simp only [qprod,cj1,h2,h3]; grind) e3
 exact Z6.ext4 rfl f1 f2 f3
theorem Rep.div {x y:Q} {u v u' v':Z6} (hx:Rep x u v) (hy:Rep y u' v') (ox:x.ok=true) (oy:y.ok=true) (hu:Sg.s u'≠0):Rep (qdiv x y) (u*v') (v*u'):=by
 have hsy:Sg.s (wv y)≠0:=fun h=>by
  have:=hy.sg oy
  rw [sg_wv,h] at this
  exact (Int.mul_ne_zero hu hy.nz) this.symm
 have hnz:¬(y.c0=0∧y.c1=0∧y.c2=0∧y.c3=0):=by
  rintro ⟨h0,h1,h2,h3⟩
  apply hsy
  unfold wv
  rw [h0,h1,h2,h3]
  rfl
 have oa:(cj2 y).ok=true:=by rw [LL,oy]
 have ot:=IG oy
 have ob:(cj1 (qtwo y)).ok=true:=by rw [KD,ot]
 have on:=Ne oy
 have oi:=Lm oy hnz
 have hO:Sg.s (zi (qone y).c0)≠0:=by rw [s_zi]; exact fun h=>Ip oy hnz (OG.1 h)
 have r1:=(Rep.self ox).mul (Rep.self oa) ox oa
 have ri:Rep (qinv y) (zi (qone y).d) (zi (qone y).c0):=Nn (q:=⟨(qone y).d,0,0,0,(qone y).c0⟩) (Ip oy hnz) hO rfl
 have r2:=(Rep.self ob).mul ri ob oi
 have r:=r1.mul r2 (Fm ox oa) (Fm ob oi)
 refine r.conv (Ib hx.nz hu) ?_
 have t1:=((Rep.self oy).mul (Rep.self oa) oy oa).eq
 have t2:=((Rep.self ot).mul (Rep.self ob) ot ob).eq
 change wv (qtwo y)*(zi y.d*zi y.d)=wv y*wv (cj2 y)*zi (qtwo y).d at t1
 change wv (qone y)*(zi (qtwo y).d*zi (qtwo y).d)=wv (qtwo y)*wv (cj1 (qtwo y))*zi (qone y).d at t2
 rw [S3 oy] at t2
 change wv x*wv (cj2 y)*(wv (cj1 (qtwo y))*zi (qone y).d)*(v*u')=u*v'*(zi x.d*zi y.d*(zi (qtwo y).d*zi (qone y).c0))
 have hx1:=hx.eq
 have hy1:=hy.eq
 have hT:=Gs ot
 have hY:=Gs oy
 generalize wv (cj2 y)=Y' at*
 generalize wv (cj1 (qtwo y))=t' at*
 generalize wv (qtwo y)=t at*
 generalize zi (qtwo y).d=τ at*
 generalize zi (qone y).d=Od at*
 generalize zi (qone y).c0=Oc at*
 generalize zi y.d=D at*
 generalize wv y=Y at*
 generalize zi x.d=Dx at*
 generalize wv x=X at*
 refine Ks (k:=τ*D) (Ib (by rw [hT]; decide) (by rw [hY]; decide)) ?_
 calc τ*D*(X*Y'*(t'*Od)*(v*u'))=(X*v)*(u'*D)*(τ*Y'*t'*Od):=by ac_rfl
  _=(u*Dx)*(Y*v')*(τ*Y'*t'*Od):=by rw [hx1,hy1]
  _=(Y*Y'*τ)*(u*Dx*v'*t'*Od):=by ac_rfl
  _=(t*(D*D))*(u*Dx*v'*t'*Od):=by rw [t1]
  _=(t*t'*Od)*(D*D*u*Dx*v'):=by ac_rfl
  _=(Oc*(τ*τ))*(D*D*u*Dx*v'):=by rw [t2]
  _=τ*D*(u*v'*(Dx*D*(τ*Oc))):=by ac_rfl
end Go.Proofs.YtphlckkbihmlnaaGreatDoor.G
end
