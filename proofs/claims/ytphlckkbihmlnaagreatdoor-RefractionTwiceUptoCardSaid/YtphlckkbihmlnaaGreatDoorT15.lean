/- A part of what the law's proof leans on. PACKED BY pack.py of this repo. -/
import Derived.Test.YtphlckkbihmlnaaGreatDoorT14
set_option linter.unusedVariables false
set_option linter.unusedSimpArgs false
set_option linter.defProp false
set_option linter.unusedSectionVars false
section
namespace Go.Proofs.YtphlckkbihmlnaaGreatDoor.G
set_option maxRecDepth 100000
open Go Go.Proofs Go.RowKit RX
def Cw.K {R:Type} (a0:Int) (k:Int×Int×Int×Int×Int×Int×Int×Int×Int×Int×Int→R):R:=
 k (0,0,0,0,0,0,0,0,0,0,a0)
theorem Cw.run (a0:Int):xfn Tryz.prog ⟨[],[],[]⟩ [] 60 Tryz.f36 [.int .i64 a0] []=Cw.K a0 (fun r=>some (.tuple ⟨[.agg ⟨[.int .i64 r.1,.int .i64 r.2.1,.int .i64 r.2.2.1,.int .i64 r.2.2.2.1,.int .i64 r.2.2.2.2.1,.int .i64 r.2.2.2.2.2.1]⟩,.agg ⟨[.int .i64 r.2.2.2.2.2.2.1,.int .i64 r.2.2.2.2.2.2.2.1]⟩,.agg ⟨[.int .i64 r.2.2.2.2.2.2.2.2.1,.int .i64 r.2.2.2.2.2.2.2.2.2.1]⟩,.int .i64 r.2.2.2.2.2.2.2.2.2.2]⟩,[])):=by kernel_rfl
def Cw (a0:Int):Int×Int×Int×Int×Int×Int×Int×Int×Int×Int×Int:=Cw.K a0 id
theorem Cw.nat {R:Type} (a0:Int) (k:Int×Int×Int×Int×Int×Int×Int×Int×Int×Int×Int→R):Cw.K a0 k=k (Cw.K a0 id):=by
 simp only [Cw.K,acond k,id_eq]
theorem Cw.ok:SOK Tryz.prog 36 (Cw.sp Cw):=by
 refine Cq (E:=⟨[],[],[]⟩) (L:=[]) ⟨Ac,Ai,Ad,Ah⟩ 60 Tryz.func36 (by decide) rfl Bs fun vs bl v bl' h=> ?_
 unfold Cw.sp at h
 split at h
 ·rename_i a0
  simp only [Option.some.injEq,Prod.mk.injEq,true_and] at h
  obtain ⟨rfl,rfl⟩:=h
  refine ⟨?_,by simp [okV,Nat.blt],clo_spec 8 _ (by kernel_rfl),As (by kernel_rfl)⟩
  refine (Cw.run a0).trans ?_
  refine (Cw.nat a0 _).trans ?_
  kernel_rfl
 ·cases h
section
variable {R:Type} (A2:Int) (A3:Int)
def Ab.K (k:(Bool)→R):R:=
 bif decide (A2≤A3) then bif decide (A2≥ -1073741824) then k (decide (A3≤1073741824)) else k (false) else k (false)
theorem Ab.run:xfn Tryz.prog ⟨[],[],[]⟩ [] 60 Tryz.f21 [.agg ⟨[.int .i64 A2,.int .i64 A3]⟩] []=Ab.K A2 A3 (fun r=>some (.bool r,[])):=by kernel_rfl
def Ab:Bool:=Ab.K A2 A3 id
theorem Ab.nat (k:(Bool)→R):Ab.K A2 A3 k=k (Ab.K A2 A3 id):=by
 simp only [Ab.K,acond k,id_eq]
theorem Ab.eq (a b:Int):Ab a b=V a b:=by
 simp only [Ab,Ab.K,id_eq,V]
 by_cases h1:a≤b<;>by_cases h2:a≥ -1073741824<;>by_cases h3:b≤1073741824<;>simp [h1,h2,h3]<;>omega
end
theorem Ab.ok:SOK Tryz.prog 21 (Ab.sp Ab):=by
 refine Cq (E:=⟨[],[],[]⟩) (L:=[]) ⟨Ac,Ai,Ad,Ah⟩ 60 Tryz.func21 (by decide) rfl Bs fun vs bl v bl' h=> ?_
 unfold Ab.sp at h
 split at h
 ·rename_i A2 A3
  simp only [Option.some.injEq,Prod.mk.injEq,true_and] at h
  obtain ⟨rfl,rfl⟩:=h
  refine ⟨?_,by simp [okV,Nat.blt],clo_spec 8 _ (by kernel_rfl),As (by kernel_rfl)⟩
  refine (Ab.run A2 A3).trans ?_
  refine (Ab.nat A2 A3 _).trans ?_
  kernel_rfl
 ·cases h
section
variable {R:Type} (AI:Int→Int→(Bool)) (A2:Int) (A3:Int) (A8:Int) (A7:Int) (A6:Int) (A9:Int)
def Az.K (k:(Bool)→R):R:=
 let t0:=AI A2 A3
 bif t0 then
 let t1:=AI A8 A7
 bif t1 then
 let t2:=AI A6 A9
 k (t2) else k (false) else k (false)
theorem Az.run:xfn Tryz.prog ⟨[(21,Ab.sp AI)],[],[]⟩ [] 60 Tryz.f77 [.agg ⟨[.int .i64 A2,.int .i64 A3,.int .i64 A8,.int .i64 A7,.int .i64 A6,.int .i64 A9]⟩] []=Az.K AI A2 A3 A8 A7 A6 A9 (fun r=>some (.bool r,[])):=by kernel_rfl
def Az:Bool:=Az.K Ab A2 A3 A8 A7 A6 A9 id
theorem Az.nat (k:(Bool)→R):Az.K AI A2 A3 A8 A7 A6 A9 k=k (Az.K AI A2 A3 A8 A7 A6 A9 id):=by
 simp only [Az.K,acond k,id_eq]
theorem Az.eq (a0 a1 a2 a3 a4 a5:Int):Az a0 a1 a2 a3 a4 a5=VB ((a0,a1),(a2,a3),(a4,a5)):=by
 simp only [Az,Az.K,id_eq,Ab.eq,VB,V2]
 cases V a0 a1<;>cases V a2 a3<;>cases V a4 a5<;>rfl
end
theorem Az.ok:SOK Tryz.prog 77 (Az.sp Az):=by
 refine Cq (E:=⟨[(21,Ab.sp Ab)],[],[]⟩) (L:=[]) ⟨(Aa Ab.ok Ac),Ai,Ad,Ah⟩ 60 Tryz.func77 (by decide) rfl Bs fun vs bl v bl' h=> ?_
 unfold Az.sp at h
 split at h
 ·rename_i A2 A3 A8 A7 A6 A9
  simp only [Option.some.injEq,Prod.mk.injEq,true_and] at h
  obtain ⟨rfl,rfl⟩:=h
  refine ⟨?_,by simp [okV,Nat.blt],clo_spec 8 _ (by kernel_rfl),As (by kernel_rfl)⟩
  refine (Az.run Ab A2 A3 A8 A7 A6 A9).trans ?_
  refine (Az.nat Ab A2 A3 A8 A7 A6 A9 _).trans ?_
  kernel_rfl
 ·cases h
section
variable {R:Type} (AI:Int→Int→(Bool)) (BS:Int→Int→Int→Int→Int→Int→(Bool)) (A2:Int) (A3:Int) (A8:Int) (A7:Int) (A6:Int) (A9:Int) (A5:Int) (A4:Int) (AF:Int) (AE:Int) (AH:Int) (AG:Int) (AM:Int) (AL:Int)
def Cv.K (k:(Bool)→R):R:=
 let t0:=BS A2 A3 A8 A7 A6 A9
 bif t0 then
 let t1:=BS A5 A4 AF AE AH AG
 bif t1 then
 let t2:=AI AM AL
 k (t2) else k (false) else k (false)
theorem Cv.run:xfn Tryz.prog ⟨[(21,Ab.sp AI),(77,Az.sp BS)],[],[]⟩ [] 60 Tryz.f37 [.agg ⟨[.int .i64 A2,.int .i64 A3,.int .i64 A8,.int .i64 A7,.int .i64 A6,.int .i64 A9]⟩,.agg ⟨[.int .i64 A5,.int .i64 A4,.int .i64 AF,.int .i64 AE,.int .i64 AH,.int .i64 AG]⟩,.agg ⟨[.int .i64 AM,.int .i64 AL]⟩] []=Cv.K AI BS A2 A3 A8 A7 A6 A9 A5 A4 AF AE AH AG AM AL (fun r=>some (.bool r,[])):=by kernel_rfl
def Cv:Bool:=Cv.K Ab Az A2 A3 A8 A7 A6 A9 A5 A4 AF AE AH AG AM AL id
theorem Cv.nat (k:(Bool)→R):Cv.K AI BS A2 A3 A8 A7 A6 A9 A5 A4 AF AE AH AG AM AL k=k (Cv.K AI BS A2 A3 A8 A7 A6 A9 A5 A4 AF AE AH AG AM AL id):=by
 simp only [Cv.K,acond k,id_eq]
end
theorem Cv.ok:SOK Tryz.prog 37 (Cv.sp Cv):=by
 refine Cq (E:=⟨[(21,Ab.sp Ab),(77,Az.sp Az)],[],[]⟩) (L:=[]) ⟨(Aa Ab.ok (Aa Az.ok Ac)),Ai,Ad,Ah⟩ 60 Tryz.func37 (by decide) rfl Bs fun vs bl v bl' h=> ?_
 unfold Cv.sp at h
 split at h
 ·rename_i A2 A3 A8 A7 A6 A9 A5 A4 AF AE AH AG AM AL
  simp only [Option.some.injEq,Prod.mk.injEq,true_and] at h
  obtain ⟨rfl,rfl⟩:=h
  refine ⟨?_,by simp [okV,Nat.blt],clo_spec 8 _ (by kernel_rfl),As (by kernel_rfl)⟩
  refine (Cv.run Ab Az A2 A3 A8 A7 A6 A9 A5 A4 AF AE AH AG AM AL).trans ?_
  refine (Cv.nat Ab Az A2 A3 A8 A7 A6 A9 A5 A4 AF AE AH AG AM AL _).trans ?_
  kernel_rfl
 ·cases h
section
variable {R:Type} (a0:Int) (a1:Int)
def At.K (k:Int×Int×Int→R):R:=
 bif decide (a0< -1073741824) then k (0,0,3) else bif decide (a1>1073741824) then k (0,0,3) else k (a0,a1,0)
theorem At.run:xfn Tryz.prog ⟨[],[],[]⟩ [] 60 Tryz.f62 [.int .i64 a0,.int .i64 a1] []=At.K a0 a1 (fun r=>some (.tuple ⟨[.agg ⟨[.int .i64 r.1,.int .i64 r.2.1]⟩,.int .i64 r.2.2]⟩,[])):=by kernel_rfl
def At:Int×Int×Int:=At.K a0 a1 id
theorem At.nat (k:Int×Int×Int→R):At.K a0 a1 k=k (At.K a0 a1 id):=by
 simp only [At.K,acond k,id_eq]
theorem At.eq {a b:Int} (h:a≤b):At a b=chk a b:=by
 simp only [At,At.K,id_eq,chk]
 by_cases h1:a< -1073741824
 ·rw [V_not.2 (by omega)]; simp [h1]
 ·by_cases h2:b>1073741824
  ·rw [V_not.2 (by omega)]; simp [h1,h2]
  ·rw [Ij.2 ⟨by omega,h,by omega⟩]; simp [h1,h2]
end
theorem At.ok:SOK Tryz.prog 62 (At.sp At):=by
 refine Cq (E:=⟨[],[],[]⟩) (L:=[]) ⟨Ac,Ai,Ad,Ah⟩ 60 Tryz.func62 (by decide) rfl Bs fun vs bl v bl' h=> ?_
 unfold At.sp at h
 split at h
 ·rename_i a0 a1
  simp only [Option.some.injEq,Prod.mk.injEq,true_and] at h
  obtain ⟨rfl,rfl⟩:=h
  refine ⟨?_,by simp [okV,Nat.blt],clo_spec 8 _ (by kernel_rfl),As (by kernel_rfl)⟩
  refine (At.run a0 a1).trans ?_
  refine (At.nat a0 a1 _).trans ?_
  kernel_rfl
 ·cases h
section
variable {R:Type} (BR:Int→Int→(Int×Int×Int)) (AI:Int→Int→(Bool)) (A2:Int) (A3:Int) (A5:Int) (A4:Int)
def Bf.K (k:Int×Int×Int→R):R:=
 let t0:=AI A2 A3
 bif !t0 then k (0,0,1) else
 let t1:=AI A5 A4
 bif !t1 then k (0,0,1) else
 let t2:=BR (IntKind.i64.wrap (A2+A5)) (IntKind.i64.wrap (A3+A4))
 k (t2.1,t2.2.1,t2.2.2)
theorem Bf.run:xfn Tryz.prog ⟨[(62,At.sp BR),(21,Ab.sp AI)],[(82,Tryz.f82)],[]⟩ [] 60 Tryz.f50 [.agg ⟨[.int .i64 A2,.int .i64 A3]⟩,.agg ⟨[.int .i64 A5,.int .i64 A4]⟩] []=Bf.K BR AI A2 A3 A5 A4 (fun r=>some (.tuple ⟨[.agg ⟨[.int .i64 r.1,.int .i64 r.2.1]⟩,.int .i64 r.2.2]⟩,[])):=by kernel_rfl
def Bf:Int×Int×Int:=Bf.K At Ab A2 A3 A5 A4 id
theorem Bf.nat (k:Int×Int×Int→R):Bf.K BR AI A2 A3 A5 A4 k=k (Bf.K BR AI A2 A3 A5 A4 id):=by
 simp only [Bf.K,acond k,id_eq]
theorem Bf.eq (a b c d:Int):Bf a b c d=iadd a b c d:=by
 simp only [Bf,Bf.K,id_eq,Ab.eq,iadd]
 cases h1:V a b with
 |false=>simp
 | true=>cases h2:V c d with
  |false=>simp
  | true=>
   have:=Ij.1 h1
   have:=Ij.1 h2
   rw [w64 (by omega) (by omega),w64 (by omega) (by omega),At.eq (by omega)]
   simp
end
theorem Bf.ok:SOK Tryz.prog 50 (Bf.sp Bf):=by
 refine Cq (E:=⟨[(62,At.sp At),(21,Ab.sp Ab)],[(82,Tryz.f82)],[]⟩) (L:=[]) ⟨(Aa At.ok (Aa Ab.ok Ac)),(Ex ⟨Tryz.func82,by decide,rfl⟩ Ai),Ad,Ah⟩ 60 Tryz.func50 (by decide) rfl Bs fun vs bl v bl' h=> ?_
 unfold Bf.sp at h
 split at h
 ·rename_i A2 A3 A5 A4
  simp only [Option.some.injEq,Prod.mk.injEq,true_and] at h
  obtain ⟨rfl,rfl⟩:=h
  refine ⟨?_,by simp [okV,Nat.blt],clo_spec 8 _ (by kernel_rfl),As (by kernel_rfl)⟩
  refine (Bf.run At Ab A2 A3 A5 A4).trans ?_
  refine (Bf.nat At Ab A2 A3 A5 A4 _).trans ?_
  kernel_rfl
 ·cases h
section
variable {R:Type} (s0_0:Int) (A5:Int) (A4:Int) (a2:Int)
def Al.K (k:Int×Int×Int→R):R:=
 bif s0_0==0 then k (A5,A4,a2) else k (A5,A4,s0_0)
theorem Al.run:xfn Tryz.prog ⟨[],[],[]⟩ [] 60 Tryz.f30 [.pointer (some ⟨0,0,none⟩),.agg ⟨[.int .i64 A5,.int .i64 A4]⟩,.int .i64 a2] [.cs [.int .i64 s0_0] 61]=Al.K s0_0 A5 A4 a2 (fun r=>some (.agg ⟨[.int .i64 r.1,.int .i64 r.2.1]⟩,[.cs [.int .i64 r.2.2] 61])):=by kernel_rfl
def Al:Int×Int×Int:=Al.K s0_0 A5 A4 a2 id
theorem Al.nat (k:Int×Int×Int→R):Al.K s0_0 A5 A4 a2 k=k (Al.K s0_0 A5 A4 a2 id):=by
 simp only [Al.K,acond k,id_eq]
theorem Al.eq (s a b e:Int):Al s a b e=(a,b,kp s e):=by
 simp only [Al,Al.K,id_eq,kp]
 cases s==0<;>rfl
end
theorem Al.ok:SOK Tryz.prog 30 (Al.sp Al):=by
 refine Cq (E:=⟨[],[],[]⟩) (L:=[]) ⟨Ac,Ai,Ad,Ah⟩ 60 Tryz.func30 (by decide) rfl Bs fun vs bl v bl' h=> ?_
 unfold Al.sp at h
 split at h
 ·rename_i A5 A4 a2 s0_0
  simp only [Option.some.injEq,Prod.mk.injEq,true_and] at h
  obtain ⟨rfl,rfl⟩:=h
  refine ⟨?_,by simp [okV,Nat.blt],clo_spec 8 _ (by kernel_rfl),As (by kernel_rfl)⟩
  refine (Al.run s0_0 A5 A4 a2).trans ?_
  refine (Al.nat s0_0 A5 A4 a2 _).trans ?_
  kernel_rfl
 ·cases h
section
variable {R:Type} (BR:Int→Int→(Int×Int×Int)) (AI:Int→Int→(Bool)) (A2:Int) (A3:Int) (A5:Int) (A4:Int)
def Ak.K (k:Int×Int×Int→R):R:=
 let t0:=AI A2 A3
 bif !t0 then k (0,0,1) else
 let t1:=AI A5 A4
 bif !t1 then k (0,0,1) else
 let t2:=BR (IntKind.i64.wrap (A2-A4)) (IntKind.i64.wrap (A3-A5))
 k (t2.1,t2.2.1,t2.2.2)
theorem Ak.run:xfn Tryz.prog ⟨[(62,At.sp BR),(21,Ab.sp AI)],[(82,Tryz.f82)],[]⟩ [] 60 Tryz.f46 [.agg ⟨[.int .i64 A2,.int .i64 A3]⟩,.agg ⟨[.int .i64 A5,.int .i64 A4]⟩] []=Ak.K BR AI A2 A3 A5 A4 (fun r=>some (.tuple ⟨[.agg ⟨[.int .i64 r.1,.int .i64 r.2.1]⟩,.int .i64 r.2.2]⟩,[])):=by kernel_rfl
def Ak:Int×Int×Int:=Ak.K At Ab A2 A3 A5 A4 id
theorem Ak.nat (k:Int×Int×Int→R):Ak.K BR AI A2 A3 A5 A4 k=k (Ak.K BR AI A2 A3 A5 A4 id):=by
 simp only [Ak.K,acond k,id_eq]
theorem Ak.eq (a b c d:Int):Ak a b c d=isub a b c d:=by
 simp only [Ak,Ak.K,id_eq,Ab.eq,isub]
 cases h1:V a b with
 |false=>simp
 | true=>cases h2:V c d with
  |false=>simp
  | true=>
   have:=Ij.1 h1
   have:=Ij.1 h2
   rw [w64 (by omega) (by omega),w64 (by omega) (by omega),At.eq (by omega)]
   simp
end
theorem Ak.ok:SOK Tryz.prog 46 (Ak.sp Ak):=by
 refine Cq (E:=⟨[(62,At.sp At),(21,Ab.sp Ab)],[(82,Tryz.f82)],[]⟩) (L:=[]) ⟨(Aa At.ok (Aa Ab.ok Ac)),(Ex ⟨Tryz.func82,by decide,rfl⟩ Ai),Ad,Ah⟩ 60 Tryz.func46 (by decide) rfl Bs fun vs bl v bl' h=> ?_
 unfold Ak.sp at h
 split at h
 ·rename_i A2 A3 A5 A4
  simp only [Option.some.injEq,Prod.mk.injEq,true_and] at h
  obtain ⟨rfl,rfl⟩:=h
  refine ⟨?_,by simp [okV,Nat.blt],clo_spec 8 _ (by kernel_rfl),As (by kernel_rfl)⟩
  refine (Ak.run At Ab A2 A3 A5 A4).trans ?_
  refine (Ak.nat At Ab A2 A3 A5 A4 _).trans ?_
  kernel_rfl
 ·cases h
def Ax.K {R:Type} (a0:Int) (a1:Int) (k:(Int)→Option R):Option R:=
 bif a1 !=0 then bif a1 !=0 then bif a0.tmod a1 !=0 then bif decide (a0<0) then k (IntKind.i64.wrap (IntKind.i64.wrap (a0.tdiv a1)-1)) else k (IntKind.i64.wrap (a0.tdiv a1)) else k (IntKind.i64.wrap (a0.tdiv a1)) else none else none
theorem Ax.run (a0:Int) (a1:Int):xfn Tryz.prog ⟨[],[],[]⟩ [] 60 Tryz.f63 [.int .i64 a0,.int .i64 a1] []=Ax.K a0 a1 (fun r=>some (.int .i64 r,[])):=by kernel_rfl
def Ax.o (a0:Int) (a1:Int):Option (Int):=Ax.K a0 a1 some
def Ax (a0:Int) (a1:Int):Int:=(Ax.o a0 a1).getD default
theorem Ax.nat {R:Type} (a0:Int) (a1:Int) (k:(Int)→Option R):Ax.K a0 a1 k=(Ax.K a0 a1 some).bind k:=by
 simp only [Ax.K,bcond,Option.bind_some,Option.bind_none]
theorem Ax.eq {a b:Int} (hb:0<b) (h1: -4611686018427387904≤a) (h2:a≤4611686018427387904):Ax a b=a/b:=by
 have hb0:(b !=0)=true:=by simp; omega
 have hq:=OE hb h1 h2
 simp only [Ax,Ax.o,Ax.K,hb0,cond_true]
 have hd:a.tdiv b=a/b+if 0≤a∨b∣a then 0 else b.sign:=Int.tdiv_eq_ediv
 rw [Int.sign_eq_one_of_pos hb] at hd
 by_cases hm:a.tmod b=0
 ·have hv:b∣a:=Int.dvd_of_tmod_eq_zero hm
  simp only [hv,or_true,if_true,Int.add_zero] at hd
  simp only [hm,bne_self_eq_false,cond_false,Option.getD_some,hd]
  exact w64 (by omega) (by omega)
 ·have hv:¬b∣a:=fun h=>hm (Int.tmod_eq_zero_of_dvd h)
  have hm':(a.tmod b !=0)=true:=by simp [hm]
  simp only [hm',cond_true]
  by_cases ha:a<0
  ·simp only [hv,or_false,show ¬0≤a from by omega,if_false] at hd
   simp only [ha,decide_true,cond_true,Option.getD_some,hd]
   rw [w64 (n:=a/b+1) (by omega) (by omega),Int.add_sub_cancel,w64 (by omega) (by omega)]
  ·simp only [show 0≤a from by omega,true_or,if_true,Int.add_zero] at hd
   simp only [ha,decide_false,cond_false,Option.getD_some,hd]
   exact w64 (by omega) (by omega)
theorem Ax.ok:SOK Tryz.prog 63 (Ax.sp Ax):=by
 refine Cq (E:=⟨[],[],[]⟩) (L:=[]) ⟨Ac,Ai,Ad,Ah⟩ 60 Tryz.func63 (by decide) rfl Bs fun vs bl v bl' h=> ?_
 unfold Ax.sp at h
 split at h
 ·rename_i a0 a1
  simp only [Option.some.injEq,Prod.mk.injEq] at h
  obtain ⟨hp,rfl,rfl⟩:=h
  have hr:=Ax.run a0 a1
  rw [Ax.nat] at hr
  obtain ⟨r,h2⟩:=Option.isSome_iff_exists.1 (by simp [Ax.o,Ax.K,LY,JQ,hp]:(Ax.o a0 a1).isSome=true)
  have h3:Ax a0 a1=r:=by unfold Ax; rw [h2]; rfl
  have h4:Ax.K a0 a1 some=some r:=h2
  rw [h4,Option.bind_some] at hr
  rw [h3]
  exact ⟨hr,by simp [okV,Nat.blt],clo_spec 8 _ (by kernel_rfl),As (by kernel_rfl)⟩
 ·cases h
section
variable {R:Type} (BU:Int→Int→(Int)) (a0:Int) (a1:Int)
def Bn.K (k:(Int)→Option R):Option R:=
 bif a1 !=0 then
 let t0:=BU (IntKind.i64.wrap (0-a0)) a1
 k (IntKind.i64.wrap (0-t0)) else none
theorem Bn.run:xfn Tryz.prog ⟨[(63,Ax.sp BU)],[],[]⟩ [] 60 Tryz.f64 [.int .i64 a0,.int .i64 a1] []=Bn.K BU a0 a1 (fun r=>some (.int .i64 r,[])):=by kernel_rfl
def Bn.o:Option (Int):=Bn.K Ax a0 a1 some
def Bn:Int:=(Bn.o a0 a1).getD default
theorem Bn.nat (k:(Int)→Option R):Bn.K BU a0 a1 k=(Bn.K BU a0 a1 some).bind k:=by
 simp only [Bn.K,bcond,Option.bind_some,Option.bind_none]
theorem Bn.eq {a b:Int} (hb:0<b) (h1: -4611686018427387904≤a) (h2:a≤4611686018427387904):Bn a b=cl a b:=by
 have hb0:(b !=0)=true:=by simp; omega
 have hq:=OE (a:= -a) hb (by omega) (by omega)
 simp only [Bn,Bn.o,Bn.K,hb0,cond_true,Option.getD_some,Int.zero_sub]
 rw [w64 (n:= -a) (by omega) (by omega),Ax.eq hb (by omega) (by omega),w64 (by omega) (by omega)]
 rfl
end
theorem Bn.ok:SOK Tryz.prog 64 (Bn.sp Bn):=by
 refine Cq (E:=⟨[(63,Ax.sp Ax)],[],[]⟩) (L:=[]) ⟨(Aa Ax.ok Ac),Ai,Ad,Ah⟩ 60 Tryz.func64 (by decide) rfl Bs fun vs bl v bl' h=> ?_
 unfold Bn.sp at h
 split at h
 ·rename_i a0 a1
  simp only [Option.some.injEq,Prod.mk.injEq] at h
  obtain ⟨hp,rfl,rfl⟩:=h
  have hr:=Bn.run Ax a0 a1
  rw [Bn.nat] at hr
  obtain ⟨r,h2⟩:=Option.isSome_iff_exists.1 (by simp [Bn.o,Bn.K,LY,JQ,hp]:(Bn.o a0 a1).isSome=true)
  have h3:Bn a0 a1=r:=by unfold Bn; rw [h2]; rfl
  have h4:Bn.K Ax a0 a1 some=some r:=h2
  rw [h4,Option.bind_some] at hr
  rw [h3]
  exact ⟨hr,by simp [okV,Nat.blt],clo_spec 8 _ (by kernel_rfl),As (by kernel_rfl)⟩
 ·cases h
section
variable {R:Type} (BR:Int→Int→(Int×Int×Int)) (BU:Int→Int→(Int)) (C7:Int→Int→(Int)) (AI:Int→Int→(Bool)) (A2:Int) (A3:Int) (A5:Int) (A4:Int)
def Au.K (k:Int×Int×Int→R):R:=
 let t0:=AI A2 A3
 bif !t0 then k (0,0,1) else
 let t1:=AI A5 A4
 bif !t1 then k (0,0,1) else
 let t2:=BU (mn (mn (mn (mn (IntKind.i64.wrap (A2*A5)) (IntKind.i64.wrap (A2*A5))) (IntKind.i64.wrap (A2*A4))) (IntKind.i64.wrap (A3*A5))) (IntKind.i64.wrap (A3*A4))) 16777216
 let t3:=C7 (mx (mx (mx (mx (IntKind.i64.wrap (A2*A5)) (IntKind.i64.wrap (A2*A5))) (IntKind.i64.wrap (A2*A4))) (IntKind.i64.wrap (A3*A5))) (IntKind.i64.wrap (A3*A4))) 16777216
 let t4:=BR t2 t3
 k (t4.1,t4.2.1,t4.2.2)
theorem Au.run:xfn Tryz.prog ⟨[(61,Fa.sp),(62,At.sp BR),(63,Ax.sp BU),(64,Bn.sp C7),(21,Ab.sp AI)],[(82,Tryz.f82)],[]⟩ [] 60 Tryz.f47 [.agg ⟨[.int .i64 A2,.int .i64 A3]⟩,.agg ⟨[.int .i64 A5,.int .i64 A4]⟩] []=Au.K BR BU C7 AI A2 A3 A5 A4 (fun r=>some (.tuple ⟨[.agg ⟨[.int .i64 r.1,.int .i64 r.2.1]⟩,.int .i64 r.2.2]⟩,[])):=by kernel_rfl
def Au:Int×Int×Int:=Au.K At Ax Bn Ab A2 A3 A5 A4 id
theorem Au.nat (k:Int×Int×Int→R):Au.K BR BU C7 AI A2 A3 A5 A4 k=k (Au.K BR BU C7 AI A2 A3 A5 A4 id):=by
 simp only [Au.K,acond k,id_eq]
theorem Au.eq (a b c d:Int):Au a b c d=imul a b c d:=by
 simp only [Au,Au.K,id_eq,Ab.eq,imul]
 cases h1:V a b with
 |false=>simp
 | true=>cases h2:V c d with
  |false=>simp
  | true=>
   have:=Ij.1 h1
   have:=Ij.1 h2
   have e1:=Jd (x:=a) (y:=c) (by omega) (by omega) (by omega) (by omega)
   have e2:=Jd (x:=a) (y:=d) (by omega) (by omega) (by omega) (by omega)
   have e3:=Jd (x:=b) (y:=c) (by omega) (by omega) (by omega) (by omega)
   have e4:=Jd (x:=b) (y:=d) (by omega) (by omega) (by omega) (by omega)
   have w1:IntKind.i64.wrap (a*c)=a*c:=w64 (by omega) (by omega)
   have w2:IntKind.i64.wrap (a*d)=a*d:=w64 (by omega) (by omega)
   have w3:IntKind.i64.wrap (b*c)=b*c:=w64 (by omega) (by omega)
   have w4:IntKind.i64.wrap (b*d)=b*d:=w64 (by omega) (by omega)
   have m1:min (min (min (min (a*c) (a*c)) (a*d)) (b*c)) (b*d)=mn4 (a*c) (a*d) (b*c) (b*d):=by simp only [mn4]; omega
   have m2:max (max (max (max (a*c) (a*c)) (a*d)) (b*c)) (b*d)=mx4 (a*c) (a*d) (b*c) (b*d):=by simp only [mx4]; omega
   simp only [w1,w2,w3,w4,mn_eq,mx_eq,Bool.not_true,cond_false,Bool.and_self,cond_true,m1,m2]
   have hmn:mn4 (a*c) (a*d) (b*c) (b*d)≤mx4 (a*c) (a*d) (b*c) (b*d):=by simp only [mn4,mx4]; omega
   rw [Ax.eq (by omega) (by simp only [mn4]; omega) (by simp only [mn4]; omega),Bn.eq (by omega) (by simp only [mx4]; omega) (by simp only [mx4]; omega),At.eq (NM (by omega) hmn)]
end
theorem Au.ok:SOK Tryz.prog 47 (Au.sp Au):=by
 refine Cq (E:=⟨[(61,Fa.sp),(62,At.sp At),(63,Ax.sp Ax),(64,Bn.sp Bn),(21,Ab.sp Ab)],[(82,Tryz.f82)],[]⟩) (L:=[]) ⟨(Aa Fa.ok (Aa At.ok (Aa Ax.ok (Aa Bn.ok (Aa Ab.ok Ac))))),(Ex ⟨Tryz.func82,by decide,rfl⟩ Ai),Ad,Ah⟩ 60 Tryz.func47 (by decide) rfl Bs fun vs bl v bl' h=> ?_
 unfold Au.sp at h
 split at h
 ·rename_i A2 A3 A5 A4
  simp only [Option.some.injEq,Prod.mk.injEq,true_and] at h
  obtain ⟨rfl,rfl⟩:=h
  refine ⟨?_,by simp [okV,Nat.blt],clo_spec 8 _ (by kernel_rfl),As (by kernel_rfl)⟩
  refine (Au.run At Ax Bn Ab A2 A3 A5 A4).trans ?_
  refine (Au.nat At Ax Bn Ab A2 A3 A5 A4 _).trans ?_
  kernel_rfl
 ·cases h
section
variable {R:Type} (BR:Int→Int→(Int×Int×Int)) (BU:Int→Int→(Int)) (C7:Int→Int→(Int)) (AI:Int→Int→(Bool)) (A2:Int) (A3:Int) (A5:Int) (A4:Int)
def Bb.K (k:Int×Int×Int→Option R):Option R:=
 let t0:=AI A2 A3
 bif !t0 then k (0,0,1) else
 let t1:=AI A5 A4
 bif !t1 then k (0,0,1) else bif decide (A5≤0) then bif decide (A4≥0) then k (0,0,10) else bif decide (A4<0) then bif IntKind.i64.wrap (0-A4) !=0 then bif IntKind.i64.wrap (0-A5) !=0 then bif IntKind.i64.wrap (0-A4) !=0 then bif IntKind.i64.wrap (0-A5) !=0 then
 let t2:=BU (IntKind.i64.wrap (IntKind.i64.wrap (0-A3)*16777216)) (IntKind.i64.wrap (0-A4))
 let t3:=BU (IntKind.i64.wrap (IntKind.i64.wrap (0-A3)*16777216)) (IntKind.i64.wrap (0-A5))
 let t4:=C7 (IntKind.i64.wrap (IntKind.i64.wrap (0-A2)*16777216)) (IntKind.i64.wrap (0-A4))
 let t5:=C7 (IntKind.i64.wrap (IntKind.i64.wrap (0-A2)*16777216)) (IntKind.i64.wrap (0-A5))
 let t6:=BR (mn (mn t2 t2) t3) (mx (mx t4 t4) t5)
 k (t6.1,t6.2.1,t6.2.2) else none else none else none else none else bif A5 !=0 then bif A4 !=0 then bif A5 !=0 then bif A4 !=0 then
 let t7:=BU (IntKind.i64.wrap (A2*16777216)) A5
 let t8:=BU (IntKind.i64.wrap (A2*16777216)) A4
 let t9:=C7 (IntKind.i64.wrap (A3*16777216)) A5
 let t10:=C7 (IntKind.i64.wrap (A3*16777216)) A4
 let t11:=BR (mn (mn t7 t7) t8) (mx (mx t9 t9) t10)
 k (t11.1,t11.2.1,t11.2.2) else none else none else none else none else bif decide (A4<0) then bif IntKind.i64.wrap (0-A4) !=0 then bif IntKind.i64.wrap (0-A5) !=0 then bif IntKind.i64.wrap (0-A4) !=0 then bif IntKind.i64.wrap (0-A5) !=0 then
 let t12:=BU (IntKind.i64.wrap (IntKind.i64.wrap (0-A3)*16777216)) (IntKind.i64.wrap (0-A4))
 let t13:=BU (IntKind.i64.wrap (IntKind.i64.wrap (0-A3)*16777216)) (IntKind.i64.wrap (0-A5))
 let t14:=C7 (IntKind.i64.wrap (IntKind.i64.wrap (0-A2)*16777216)) (IntKind.i64.wrap (0-A4))
 let t15:=C7 (IntKind.i64.wrap (IntKind.i64.wrap (0-A2)*16777216)) (IntKind.i64.wrap (0-A5))
 let t16:=BR (mn (mn t12 t12) t13) (mx (mx t14 t14) t15)
 k (t16.1,t16.2.1,t16.2.2) else none else none else none else none else bif A5 !=0 then bif A4 !=0 then bif A5 !=0 then bif A4 !=0 then
 let t17:=BU (IntKind.i64.wrap (A2*16777216)) A5
 let t18:=BU (IntKind.i64.wrap (A2*16777216)) A4
 let t19:=C7 (IntKind.i64.wrap (A3*16777216)) A5
 let t20:=C7 (IntKind.i64.wrap (A3*16777216)) A4
 let t21:=BR (mn (mn t17 t17) t18) (mx (mx t19 t19) t20)
 k (t21.1,t21.2.1,t21.2.2) else none else none else none else none
theorem Bb.run:xfn Tryz.prog ⟨[(61,Fa.sp),(62,At.sp BR),(63,Ax.sp BU),(64,Bn.sp C7),(21,Ab.sp AI)],[(82,Tryz.f82)],[]⟩ [] 60 Tryz.f54 [.agg ⟨[.int .i64 A2,.int .i64 A3]⟩,.agg ⟨[.int .i64 A5,.int .i64 A4]⟩] []=Bb.K BR BU C7 AI A2 A3 A5 A4 (fun r=>some (.tuple ⟨[.agg ⟨[.int .i64 r.1,.int .i64 r.2.1]⟩,.int .i64 r.2.2]⟩,[])):=by kernel_rfl
def Bb.o:Option (Int×Int×Int):=Bb.K At Ax Bn Ab A2 A3 A5 A4 some
def Bb:Int×Int×Int:=(Bb.o A2 A3 A5 A4).getD default
theorem Bb.nat (k:Int×Int×Int→Option R):Bb.K BR BU C7 AI A2 A3 A5 A4 k=(Bb.K BR BU C7 AI A2 A3 A5 A4 some).bind k:=by
 simp only [Bb.K,bcond,Option.bind_some,Option.bind_none]
end
theorem Bb.o_eq (a b c d:Int):Bb.o a b c d=some (idiv a b c d):=by
  simp only [Bb.o,Bb.K,Ab.eq,idiv]
  cases h1:V a b with
  |false=>simp
  | true=>cases h2:V c d with
    |false=>simp
    | true=>
      have:=Ij.1 h1
      have:=Ij.1 h2
      have w1:IntKind.i64.wrap (0-a)= -a:=by rw [Int.zero_sub]; exact w64 (by omega) (by omega)
      have w2:IntKind.i64.wrap (0-b)= -b:=by rw [Int.zero_sub]; exact w64 (by omega) (by omega)
      have w3:IntKind.i64.wrap (0-c)= -c:=by rw [Int.zero_sub]; exact w64 (by omega) (by omega)
      have w4:IntKind.i64.wrap (0-d)= -d:=by rw [Int.zero_sub]; exact w64 (by omega) (by omega)
      have w5:IntKind.i64.wrap (a*16777216)=a*16777216:=w64 (by omega) (by omega)
      have w6:IntKind.i64.wrap (b*16777216)=b*16777216:=w64 (by omega) (by omega)
      have w7:IntKind.i64.wrap (-a*16777216)= -a*16777216:=w64 (by omega) (by omega)
      have w8:IntKind.i64.wrap (-b*16777216)= -b*16777216:=w64 (by omega) (by omega)
      simp only [w1,w2,w3,w4,w5,w6,w7,w8,mn_eq,mx_eq,Bool.not_true,cond_false,cond_true,Bool.and_self]
      have pos:∀x y u v:Int,-1073741824≤x→x≤y→y≤1073741824→0<u→u≤v→v≤1073741824→At (min (min (Ax (x*16777216) u) (Ax (x*16777216) u)) (Ax (x*16777216) v)) (max (max (Bn (y*16777216) u) (Bn (y*16777216) u)) (Bn (y*16777216) v))=pdiv x y u v:=fun x y u v hx hxy hy hu huv hv=>by
        have hv0:0<v:=by omega
        have f1:Ax (x*16777216) u=x*16777216/u:=Ax.eq hu (by omega) (by omega)
        have f2:Ax (x*16777216) v=x*16777216/v:=Ax.eq hv0 (by omega) (by omega)
        have f3:Bn (y*16777216) u=cl (y*16777216) u:=Bn.eq hu (by omega) (by omega)
        have f4:Bn (y*16777216) v=cl (y*16777216) v:=Bn.eq hv0 (by omega) (by omega)
        rw [f1,f2,f3,f4,Int.min_self,Int.max_self]
        have:=NM (x:=x*16777216) (y:=y*16777216) hu (by omega)
        exact At.eq (by omega)
      by_cases h3:c≤0
      · by_cases h4:d≥0
        · simp [h3,h4]
        · have h5:d<0:=by omega
          have n1:((-d) !=0)=true:=by simp; omega
          have n2:((-c) !=0)=true:=by simp; omega
          have n3:¬(c≤0∧0≤d):=by omega
          rw [if_neg n3,if_pos h5]
          simp only [h3,h4,h5,n1,n2,decide_true,decide_false,cond_true,cond_false,pos (-b) (-a) (-d) (-c) (by omega) (by omega) (by omega) (by omega) (by omega) (by omega)]
      · have h5:¬d<0:=by omega
        have n1:(c !=0)=true:=by simp; omega
        have n2:(d !=0)=true:=by simp; omega
        have n3:¬(c≤0∧0≤d):=by omega
        rw [if_neg n3,if_neg h5]
        simp only [h3,h5,n1,n2,decide_true,decide_false,cond_true,cond_false,pos a b c d (by omega) (by omega) (by omega) (by omega) (by omega) (by omega)]
theorem Bb.total (a b c d:Int):(Bb.o a b c d).isSome=true:=by rw [Bb.o_eq]; rfl
theorem Bb.ok:SOK Tryz.prog 54 (Bb.sp Bb):=by
 refine Cq (E:=⟨[(61,Fa.sp),(62,At.sp At),(63,Ax.sp Ax),(64,Bn.sp Bn),(21,Ab.sp Ab)],[(82,Tryz.f82)],[]⟩) (L:=[]) ⟨(Aa Fa.ok (Aa At.ok (Aa Ax.ok (Aa Bn.ok (Aa Ab.ok Ac))))),(Ex ⟨Tryz.func82,by decide,rfl⟩ Ai),Ad,Ah⟩ 60 Tryz.func54 (by decide) rfl Bs fun vs bl v bl' h=> ?_
 unfold Bb.sp at h
 split at h
 ·rename_i A2 A3 A5 A4
  simp only [Option.some.injEq,Prod.mk.injEq] at h
  obtain ⟨hp,rfl,rfl⟩:=h
  have hr:=Bb.run At Ax Bn Ab A2 A3 A5 A4
  rw [Bb.nat] at hr
  obtain ⟨r,h2⟩:=Option.isSome_iff_exists.1 (Bb.total A2 A3 A5 A4:(Bb.o A2 A3 A5 A4).isSome=true)
  have h3:Bb A2 A3 A5 A4=r:=by unfold Bb; rw [h2]; rfl
  have h4:Bb.K At Ax Bn Ab A2 A3 A5 A4 some=some r:=h2
  rw [h4,Option.bind_some] at hr
  rw [h3]
  exact ⟨hr,by simp [okV,Nat.blt],clo_spec 8 _ (by kernel_rfl),As (by kernel_rfl)⟩
 ·cases h
section
variable {R:Type} (BP:Int→Int→Int→Int→(Int×Int×Int)) (AR:Int→Int→Int→Int→(Int×Int×Int)) (AU:Int→Int→Int→Int→(Int×Int×Int)) (BJ:Int→Int→Int→Int→(Int×Int×Int)) (BK:Int→Int→Int→Int→(Int×Int×Int)) (s0_0:Int) (AM:Int) (AL:Int) (C4:Int) (C3:Int)
def Ao.K {R:Type} (BP:Int→Int→Int→Int→(Int×Int×Int)) (AR:Int→Int→Int→Int→(Int×Int×Int)) (AU:Int→Int→Int→Int→(Int×Int×Int)) (BJ:Int→Int→Int→Int→(Int×Int×Int)) (BK:Int→Int→Int→Int→(Int×Int×Int)) (s0_0:Int) (AM:Int) (AL:Int) (C4:Int) (C3:Int) (k:Int×Int×Int→R):R:=
 bif s0_0 !=0 then k (AM,AL,s0_0) else
 let t0:=BJ AM AL C4 C3
 let t1:=BP s0_0 t0.1 t0.2.1 t0.2.2
 k (t1.1,t1.2.1,t1.2.2)
theorem Ao.run:xfn Tryz.prog ⟨[(30,Al.sp BP),(46,Ak.sp AR),(47,Au.sp AU),(50,Bf.sp BJ),(54,Bb.sp BK)],[],[]⟩ [] 60 Tryz.f65 [.pointer (some ⟨0,0,none⟩),.func (.func 50) ⟨[]⟩ ⟨[]⟩,.agg ⟨[.int .i64 AM,.int .i64 AL]⟩,.agg ⟨[.int .i64 C4,.int .i64 C3]⟩] [.cs [.int .i64 s0_0] 61]=Ao.K BP AR AU BJ BK s0_0 AM AL C4 C3 (fun r=>some (.agg ⟨[.int .i64 r.1,.int .i64 r.2.1]⟩,[.cs [.int .i64 r.2.2] 61])):=by kernel_rfl
def Ao:Int×Int×Int:=Ao.K Al Ak Au Bf Bb s0_0 AM AL C4 C3 id
theorem Ao.nat (k:Int×Int×Int→R):Ao.K BP AR AU BJ BK s0_0 AM AL C4 C3 k=k (Ao.K BP AR AU BJ BK s0_0 AM AL C4 C3 id):=by
 simp only [Ao.K,acond k,id_eq]
theorem Ao.eq (s a b c d:Int):Ao s a b c d=st s a b (iadd a b c d):=by
 simp only [Ao,Ao.K,id_eq,Bf.eq,Al.eq,st]
 by_cases hs:s=0
 ·subst hs; rfl
 ·simp only [Fh hs,cond_true]
end
section
variable {R:Type} (BP:Int→Int→Int→Int→(Int×Int×Int)) (AR:Int→Int→Int→Int→(Int×Int×Int)) (AU:Int→Int→Int→Int→(Int×Int×Int)) (BJ:Int→Int→Int→Int→(Int×Int×Int)) (BK:Int→Int→Int→Int→(Int×Int×Int)) (s0_0:Int) (AM:Int) (AL:Int) (C4:Int) (C3:Int)
def Am.K {R:Type} (BP:Int→Int→Int→Int→(Int×Int×Int)) (AR:Int→Int→Int→Int→(Int×Int×Int)) (AU:Int→Int→Int→Int→(Int×Int×Int)) (BJ:Int→Int→Int→Int→(Int×Int×Int)) (BK:Int→Int→Int→Int→(Int×Int×Int)) (s0_0:Int) (AM:Int) (AL:Int) (C4:Int) (C3:Int) (k:Int×Int×Int→R):R:=
 bif s0_0 !=0 then k (AM,AL,s0_0) else
 let t0:=AR AM AL C4 C3
 let t1:=BP s0_0 t0.1 t0.2.1 t0.2.2
 k (t1.1,t1.2.1,t1.2.2)
theorem Am.run:xfn Tryz.prog ⟨[(30,Al.sp BP),(46,Ak.sp AR),(47,Au.sp AU),(50,Bf.sp BJ),(54,Bb.sp BK)],[],[]⟩ [] 60 Tryz.f65 [.pointer (some ⟨0,0,none⟩),.func (.func 46) ⟨[]⟩ ⟨[]⟩,.agg ⟨[.int .i64 AM,.int .i64 AL]⟩,.agg ⟨[.int .i64 C4,.int .i64 C3]⟩] [.cs [.int .i64 s0_0] 61]=Am.K BP AR AU BJ BK s0_0 AM AL C4 C3 (fun r=>some (.agg ⟨[.int .i64 r.1,.int .i64 r.2.1]⟩,[.cs [.int .i64 r.2.2] 61])):=by kernel_rfl
def Am:Int×Int×Int:=Am.K Al Ak Au Bf Bb s0_0 AM AL C4 C3 id
theorem Am.nat (k:Int×Int×Int→R):Am.K BP AR AU BJ BK s0_0 AM AL C4 C3 k=k (Am.K BP AR AU BJ BK s0_0 AM AL C4 C3 id):=by
 simp only [Am.K,acond k,id_eq]
theorem Am.eq (s a b c d:Int):Am s a b c d=st s a b (isub a b c d):=by
 simp only [Am,Am.K,id_eq,Ak.eq,Al.eq,st]
 by_cases hs:s=0
 ·subst hs; rfl
 ·simp only [Fh hs,cond_true]
end
section
variable {R:Type} (BP:Int→Int→Int→Int→(Int×Int×Int)) (AR:Int→Int→Int→Int→(Int×Int×Int)) (AU:Int→Int→Int→Int→(Int×Int×Int)) (BJ:Int→Int→Int→Int→(Int×Int×Int)) (BK:Int→Int→Int→Int→(Int×Int×Int)) (s0_0:Int) (AM:Int) (AL:Int) (C4:Int) (C3:Int)
def An.K {R:Type} (BP:Int→Int→Int→Int→(Int×Int×Int)) (AR:Int→Int→Int→Int→(Int×Int×Int)) (AU:Int→Int→Int→Int→(Int×Int×Int)) (BJ:Int→Int→Int→Int→(Int×Int×Int)) (BK:Int→Int→Int→Int→(Int×Int×Int)) (s0_0:Int) (AM:Int) (AL:Int) (C4:Int) (C3:Int) (k:Int×Int×Int→R):R:=
 bif s0_0 !=0 then k (AM,AL,s0_0) else
 let t0:=AU AM AL C4 C3
 let t1:=BP s0_0 t0.1 t0.2.1 t0.2.2
 k (t1.1,t1.2.1,t1.2.2)
theorem An.run:xfn Tryz.prog ⟨[(30,Al.sp BP),(46,Ak.sp AR),(47,Au.sp AU),(50,Bf.sp BJ),(54,Bb.sp BK)],[],[]⟩ [] 60 Tryz.f65 [.pointer (some ⟨0,0,none⟩),.func (.func 47) ⟨[]⟩ ⟨[]⟩,.agg ⟨[.int .i64 AM,.int .i64 AL]⟩,.agg ⟨[.int .i64 C4,.int .i64 C3]⟩] [.cs [.int .i64 s0_0] 61]=An.K BP AR AU BJ BK s0_0 AM AL C4 C3 (fun r=>some (.agg ⟨[.int .i64 r.1,.int .i64 r.2.1]⟩,[.cs [.int .i64 r.2.2] 61])):=by kernel_rfl
def An:Int×Int×Int:=An.K Al Ak Au Bf Bb s0_0 AM AL C4 C3 id
theorem An.nat (k:Int×Int×Int→R):An.K BP AR AU BJ BK s0_0 AM AL C4 C3 k=k (An.K BP AR AU BJ BK s0_0 AM AL C4 C3 id):=by
 simp only [An.K,acond k,id_eq]
theorem An.eq (s a b c d:Int):An s a b c d=st s a b (imul a b c d):=by
 simp only [An,An.K,id_eq,Au.eq,Al.eq,st]
 by_cases hs:s=0
 ·subst hs; rfl
 ·simp only [Fh hs,cond_true]
end
section
variable {R:Type} (BP:Int→Int→Int→Int→(Int×Int×Int)) (AR:Int→Int→Int→Int→(Int×Int×Int)) (AU:Int→Int→Int→Int→(Int×Int×Int)) (BJ:Int→Int→Int→Int→(Int×Int×Int)) (BK:Int→Int→Int→Int→(Int×Int×Int)) (s0_0:Int) (AM:Int) (AL:Int) (C4:Int) (C3:Int)
def Bh.K {R:Type} (BP:Int→Int→Int→Int→(Int×Int×Int)) (AR:Int→Int→Int→Int→(Int×Int×Int)) (AU:Int→Int→Int→Int→(Int×Int×Int)) (BJ:Int→Int→Int→Int→(Int×Int×Int)) (BK:Int→Int→Int→Int→(Int×Int×Int)) (s0_0:Int) (AM:Int) (AL:Int) (C4:Int) (C3:Int) (k:Int×Int×Int→R):R:=
 bif s0_0 !=0 then k (AM,AL,s0_0) else
 let t0:=BK AM AL C4 C3
 let t1:=BP s0_0 t0.1 t0.2.1 t0.2.2
 k (t1.1,t1.2.1,t1.2.2)
theorem Bh.run:xfn Tryz.prog ⟨[(30,Al.sp BP),(46,Ak.sp AR),(47,Au.sp AU),(50,Bf.sp BJ),(54,Bb.sp BK)],[],[]⟩ [] 60 Tryz.f65 [.pointer (some ⟨0,0,none⟩),.func (.func 54) ⟨[]⟩ ⟨[]⟩,.agg ⟨[.int .i64 AM,.int .i64 AL]⟩,.agg ⟨[.int .i64 C4,.int .i64 C3]⟩] [.cs [.int .i64 s0_0] 61]=Bh.K BP AR AU BJ BK s0_0 AM AL C4 C3 (fun r=>some (.agg ⟨[.int .i64 r.1,.int .i64 r.2.1]⟩,[.cs [.int .i64 r.2.2] 61])):=by kernel_rfl
def Bh:Int×Int×Int:=Bh.K Al Ak Au Bf Bb s0_0 AM AL C4 C3 id
theorem Bh.nat (k:Int×Int×Int→R):Bh.K BP AR AU BJ BK s0_0 AM AL C4 C3 k=k (Bh.K BP AR AU BJ BK s0_0 AM AL C4 C3 id):=by
 simp only [Bh.K,acond k,id_eq]
end
theorem Ew.ok:SOK Tryz.prog 65 (Ew.sp Ao Am An Bh):=by
 refine Cq (E:=⟨[(30,Al.sp Al),(46,Ak.sp Ak),(47,Au.sp Au),(50,Bf.sp Bf),(54,Bb.sp Bb)],[],[]⟩) (L:=[]) ⟨(Aa Al.ok (Aa Ak.ok (Aa Au.ok (Aa Bf.ok (Aa Bb.ok Ac))))),Ai,Ad,Ah⟩ 60 Tryz.func65 (by decide) rfl Bs fun vs bl v bl' h=> ?_
 unfold Ew.sp at h
 split at h
 ·rename_i AM AL C4 C3 s0_0
  simp only [Option.some.injEq,Prod.mk.injEq,true_and] at h
  obtain ⟨rfl,rfl⟩:=h
  refine ⟨?_,by simp [okV,Nat.blt],clo_spec 8 _ (by kernel_rfl),As (by kernel_rfl)⟩
  refine (Ao.run Al Ak Au Bf Bb s0_0 AM AL C4 C3).trans ?_
  refine (Ao.nat Al Ak Au Bf Bb s0_0 AM AL C4 C3 _).trans ?_
  kernel_rfl
 ·rename_i AM AL C4 C3 s0_0
  simp only [Option.some.injEq,Prod.mk.injEq,true_and] at h
  obtain ⟨rfl,rfl⟩:=h
  refine ⟨?_,by simp [okV,Nat.blt],clo_spec 8 _ (by kernel_rfl),As (by kernel_rfl)⟩
  refine (Am.run Al Ak Au Bf Bb s0_0 AM AL C4 C3).trans ?_
  refine (Am.nat Al Ak Au Bf Bb s0_0 AM AL C4 C3 _).trans ?_
  kernel_rfl
 ·rename_i AM AL C4 C3 s0_0
  simp only [Option.some.injEq,Prod.mk.injEq,true_and] at h
  obtain ⟨rfl,rfl⟩:=h
  refine ⟨?_,by simp [okV,Nat.blt],clo_spec 8 _ (by kernel_rfl),As (by kernel_rfl)⟩
  refine (An.run Al Ak Au Bf Bb s0_0 AM AL C4 C3).trans ?_
  refine (An.nat Al Ak Au Bf Bb s0_0 AM AL C4 C3 _).trans ?_
  kernel_rfl
 ·rename_i AM AL C4 C3 s0_0
  simp only [Option.some.injEq,Prod.mk.injEq,true_and] at h
  obtain ⟨rfl,rfl⟩:=h
  refine ⟨?_,by simp [okV,Nat.blt],clo_spec 8 _ (by kernel_rfl),As (by kernel_rfl)⟩
  refine (Bh.run Al Ak Au Bf Bb s0_0 AM AL C4 C3).trans ?_
  refine (Bh.nat Al Ak Au Bf Bb s0_0 AM AL C4 C3 _).trans ?_
  kernel_rfl
 ·cases h
section
variable {R:Type} (BJ:Int→Int→Int→Int→(Int×Int×Int)) (BO:Int→Int→Int→Int→Int→(Int×Int×Int)) (BM:Int→Int→Int→Int→Int→(Int×Int×Int)) (BN:Int→Int→Int→Int→Int→(Int×Int×Int)) (BQ:Int→Int→Int→Int→Int→(Int×Int×Int)) (s0_0:Int) (A5:Int) (A4:Int) (AM:Int) (AL:Int)
def Bu.K {R:Type} (BJ:Int→Int→Int→Int→(Int×Int×Int)) (BO:Int→Int→Int→Int→Int→(Int×Int×Int)) (BM:Int→Int→Int→Int→Int→(Int×Int×Int)) (BN:Int→Int→Int→Int→Int→(Int×Int×Int)) (BQ:Int→Int→Int→Int→Int→(Int×Int×Int)) (s0_0:Int) (A5:Int) (A4:Int) (AM:Int) (AL:Int) (k:Int×Int×Int→R):R:=
 let t0:=BO s0_0 A5 A4 AM AL
 k (t0.1,t0.2.1,t0.2.2)
theorem Bu.run:xfn Tryz.prog ⟨[(50,Bf.sp BJ),(65,Ew.sp BO BM BN BQ)],[],[]⟩ [] 60 Tryz.f24 [.pointer (some ⟨0,0,none⟩),.agg ⟨[.int .i64 A5,.int .i64 A4]⟩,.agg ⟨[.int .i64 AM,.int .i64 AL]⟩] [.cs [.int .i64 s0_0] 61]=Bu.K BJ BO BM BN BQ s0_0 A5 A4 AM AL (fun r=>some (.agg ⟨[.int .i64 r.1,.int .i64 r.2.1]⟩,[.cs [.int .i64 r.2.2] 61])):=by kernel_rfl
def Bu:Int×Int×Int:=Bu.K Bf Ao Am An Bh s0_0 A5 A4 AM AL id
theorem Bu.nat (k:Int×Int×Int→R):Bu.K BJ BO BM BN BQ s0_0 A5 A4 AM AL k=k (Bu.K BJ BO BM BN BQ s0_0 A5 A4 AM AL id):=by
 simp only [Bu.K,acond k,id_eq]
theorem Bu.eq (s a b c d:Int):Bu s a b c d=st s a b (iadd a b c d):=by
 simp only [Bu,Bu.K,id_eq,Ao.eq]
end
theorem Bu.ok:SOK Tryz.prog 24 (Bu.sp Bu):=by
 refine Cq (E:=⟨[(50,Bf.sp Bf),(65,Ew.sp Ao Am An Bh)],[],[]⟩) (L:=[]) ⟨(Aa Bf.ok (Aa Ew.ok Ac)),Ai,Ad,Ah⟩ 60 Tryz.func24 (by decide) rfl Bs fun vs bl v bl' h=> ?_
 unfold Bu.sp at h
 split at h
 ·rename_i A5 A4 AM AL s0_0
  simp only [Option.some.injEq,Prod.mk.injEq,true_and] at h
  obtain ⟨rfl,rfl⟩:=h
  refine ⟨?_,by simp [okV,Nat.blt],clo_spec 8 _ (by kernel_rfl),As (by kernel_rfl)⟩
  refine (Bu.run Bf Ao Am An Bh s0_0 A5 A4 AM AL).trans ?_
  refine (Bu.nat Bf Ao Am An Bh s0_0 A5 A4 AM AL _).trans ?_
  kernel_rfl
 ·cases h
section
variable {R:Type} (AU:Int→Int→Int→Int→(Int×Int×Int)) (BO:Int→Int→Int→Int→Int→(Int×Int×Int)) (BM:Int→Int→Int→Int→Int→(Int×Int×Int)) (BN:Int→Int→Int→Int→Int→(Int×Int×Int)) (BQ:Int→Int→Int→Int→Int→(Int×Int×Int)) (s0_0:Int) (A5:Int) (A4:Int) (AM:Int) (AL:Int)
def Bt.K {R:Type} (AU:Int→Int→Int→Int→(Int×Int×Int)) (BO:Int→Int→Int→Int→Int→(Int×Int×Int)) (BM:Int→Int→Int→Int→Int→(Int×Int×Int)) (BN:Int→Int→Int→Int→Int→(Int×Int×Int)) (BQ:Int→Int→Int→Int→Int→(Int×Int×Int)) (s0_0:Int) (A5:Int) (A4:Int) (AM:Int) (AL:Int) (k:Int×Int×Int→R):R:=
 let t0:=BN s0_0 A5 A4 AM AL
 k (t0.1,t0.2.1,t0.2.2)
theorem Bt.run:xfn Tryz.prog ⟨[(47,Au.sp AU),(65,Ew.sp BO BM BN BQ)],[],[]⟩ [] 60 Tryz.f78 [.pointer (some ⟨0,0,none⟩),.agg ⟨[.int .i64 A5,.int .i64 A4]⟩,.agg ⟨[.int .i64 AM,.int .i64 AL]⟩] [.cs [.int .i64 s0_0] 61]=Bt.K AU BO BM BN BQ s0_0 A5 A4 AM AL (fun r=>some (.agg ⟨[.int .i64 r.1,.int .i64 r.2.1]⟩,[.cs [.int .i64 r.2.2] 61])):=by kernel_rfl
def Bt:Int×Int×Int:=Bt.K Au Ao Am An Bh s0_0 A5 A4 AM AL id
theorem Bt.nat (k:Int×Int×Int→R):Bt.K AU BO BM BN BQ s0_0 A5 A4 AM AL k=k (Bt.K AU BO BM BN BQ s0_0 A5 A4 AM AL id):=by
 simp only [Bt.K,acond k,id_eq]
theorem Bt.eq (s a b c d:Int):Bt s a b c d=st s a b (imul a b c d):=by
 simp only [Bt,Bt.K,id_eq,An.eq]
end
theorem Bt.ok:SOK Tryz.prog 78 (Bt.sp Bt):=by
 refine Cq (E:=⟨[(47,Au.sp Au),(65,Ew.sp Ao Am An Bh)],[],[]⟩) (L:=[]) ⟨(Aa Au.ok (Aa Ew.ok Ac)),Ai,Ad,Ah⟩ 60 Tryz.func78 (by decide) rfl Bs fun vs bl v bl' h=> ?_
 unfold Bt.sp at h
 split at h
 ·rename_i A5 A4 AM AL s0_0
  simp only [Option.some.injEq,Prod.mk.injEq,true_and] at h
  obtain ⟨rfl,rfl⟩:=h
  refine ⟨?_,by simp [okV,Nat.blt],clo_spec 8 _ (by kernel_rfl),As (by kernel_rfl)⟩
  refine (Bt.run Au Ao Am An Bh s0_0 A5 A4 AM AL).trans ?_
  refine (Bt.nat Au Ao Am An Bh s0_0 A5 A4 AM AL _).trans ?_
  kernel_rfl
 ·cases h
section
variable {R:Type} (s0_0:Int) (A5:Int) (A4:Int)
def Ci.K (k:Int×Int×Int×Int→R):R:=
 bif s0_0 !=0 then k (0,0,s0_0,s0_0) else k (A5,A4,0,s0_0)
theorem Ci.run:xfn Tryz.prog ⟨[],[],[]⟩ [] 60 Tryz.f79 [.pointer (some ⟨0,0,none⟩),.agg ⟨[.int .i64 A5,.int .i64 A4]⟩] [.cs [.int .i64 s0_0] 61]=Ci.K s0_0 A5 A4 (fun r=>some (.tuple ⟨[.agg ⟨[.int .i64 r.1,.int .i64 r.2.1]⟩,.int .i64 r.2.2.1]⟩,[.cs [.int .i64 r.2.2.2] 61])):=by kernel_rfl
def Ci:Int×Int×Int×Int:=Ci.K s0_0 A5 A4 id
theorem Ci.nat (k:Int×Int×Int×Int→R):Ci.K s0_0 A5 A4 k=k (Ci.K s0_0 A5 A4 id):=by
 simp only [Ci.K,acond k,id_eq]
end
theorem Ci.ok:SOK Tryz.prog 79 (Ci.sp Ci):=by
 refine Cq (E:=⟨[],[],[]⟩) (L:=[]) ⟨Ac,Ai,Ad,Ah⟩ 60 Tryz.func79 (by decide) rfl Bs fun vs bl v bl' h=> ?_
 unfold Ci.sp at h
 split at h
 ·rename_i A5 A4 s0_0
  simp only [Option.some.injEq,Prod.mk.injEq,true_and] at h
  obtain ⟨rfl,rfl⟩:=h
  refine ⟨?_,by simp [okV,Nat.blt],clo_spec 8 _ (by kernel_rfl),As (by kernel_rfl)⟩
  refine (Ci.run s0_0 A5 A4).trans ?_
  refine (Ci.nat s0_0 A5 A4 _).trans ?_
  kernel_rfl
 ·cases h
section
variable {R:Type} (CS:Int→Int→Int→Int→Int→(Int×Int×Int)) (BS:Int→Int→Int→Int→Int→Int→(Bool)) (CR:Int→Int→Int→Int→Int→(Int×Int×Int)) (EV:Int→Int→Int→(Int×Int×Int×Int)) (A2:Int) (A3:Int) (A8:Int) (A7:Int) (A6:Int) (A9:Int) (A5:Int) (A4:Int) (AF:Int) (AE:Int) (AH:Int) (AG:Int)
def Ck.K (k:Int×Int×Int→R):R:=
 let t0:=BS A2 A3 A8 A7 A6 A9
 bif !t0 then k (0,0,1) else
 let t1:=BS A5 A4 AF AE AH AG
 bif !t1 then k (0,0,1) else
 let t2:=CR 0 A2 A3 A5 A4
 let t3:=CR t2.2.2 A8 A7 AF AE
 let t4:=CR t3.2.2 A6 A9 AH AG
 let t5:=CS t4.2.2 t2.1 t2.2.1 t3.1 t3.2.1
 let t6:=CS t5.2.2 t5.1 t5.2.1 t4.1 t4.2.1
 let t7:=EV t6.2.2 t6.1 t6.2.1
 k (t7.1,t7.2.1,t7.2.2.1)
theorem Ck.run:xfn Tryz.prog ⟨[(24,Bu.sp CS),(77,Az.sp BS),(78,Bt.sp CR),(79,Ci.sp EV)],[],[]⟩ [] 60 Tryz.f38 [.agg ⟨[.int .i64 A2,.int .i64 A3,.int .i64 A8,.int .i64 A7,.int .i64 A6,.int .i64 A9]⟩,.agg ⟨[.int .i64 A5,.int .i64 A4,.int .i64 AF,.int .i64 AE,.int .i64 AH,.int .i64 AG]⟩] []=Ck.K CS BS CR EV A2 A3 A8 A7 A6 A9 A5 A4 AF AE AH AG (fun r=>some (.tuple ⟨[.agg ⟨[.int .i64 r.1,.int .i64 r.2.1]⟩,.int .i64 r.2.2]⟩,[])):=by kernel_rfl
def Ck:Int×Int×Int:=Ck.K Bu Az Bt Ci A2 A3 A8 A7 A6 A9 A5 A4 AF AE AH AG id
theorem Ck.nat (k:Int×Int×Int→R):Ck.K CS BS CR EV A2 A3 A8 A7 A6 A9 A5 A4 AF AE AH AG k=k (Ck.K CS BS CR EV A2 A3 A8 A7 A6 A9 A5 A4 AF AE AH AG id):=by
 simp only [Ck.K,acond k,id_eq]
theorem Ck.eq (a0 a1 a2 a3 a4 a5 b0 b1 b2 b3 b4 b5:Int):Ck a0 a1 a2 a3 a4 a5 b0 b1 b2 b3 b4 b5=o3 (ddot ((a0,a1),(a2,a3),(a4,a5)) ((b0,b1),(b2,b3),(b4,b5))):=by
 simp only [Ck,Ck.K,id_eq,Az.eq,Bt.eq,Bu.eq,Ci,Ci.K,id_eq,ddot,mulR,addR]
 cases hV0:VB ((a0,a1),(a2,a3),(a4,a5)) with
 | false=>
  simp only [hV0,st0,kr0,st70,GR,Fb,Fc,o7,o3,o2,o11,GU,kp0,cond_true,cond_false,Bool.not_true,Bool.not_false,Bool.false_and,Bool.and_false,Bool.true_and,Bool.and_true,bne_self_eq_false,beq_self_eq_true,if_true,if_false]
 | true=>
  cases hV1:VB ((b0,b1),(b2,b3),(b4,b5)) with
  | false=>
   simp only [hV0,hV1,st0,kr0,st70,GR,Fb,Fc,o7,o3,o2,o11,GU,kp0,cond_true,cond_false,Bool.not_true,Bool.not_false,Bool.false_and,Bool.and_false,Bool.true_and,Bool.and_true,bne_self_eq_false,beq_self_eq_true,if_true,if_false]
  | true=>
   rcases t3c (imul a0 a1 b0 b1) with ⟨x0,x1,h0⟩|⟨x0,x1,e0,n0,h0⟩
   ·simp only [hV0,hV1,h0,st0,kr0,st70,GR,Fb,Fc,o7,o3,o2,o11,GU,kp0,cond_true,cond_false,Bool.not_true,Bool.not_false,Bool.false_and,Bool.and_false,Bool.true_and,Bool.and_true,bne_self_eq_false,beq_self_eq_true,if_true,if_false]
    rcases t3c (imul a2 a3 b2 b3) with ⟨y0,y1,h1⟩|⟨y0,y1,e1,n1,h1⟩
    ·simp only [h1,st0,kr0,st70,GR,Fb,Fc,o7,o3,o2,o11,GU,kp0,cond_true,cond_false,Bool.not_true,Bool.not_false,Bool.false_and,Bool.and_false,Bool.true_and,Bool.and_true,bne_self_eq_false,beq_self_eq_true,if_true,if_false]
     rcases t3c (imul a4 a5 b4 b5) with ⟨z0,z1,h2⟩|⟨z0,z1,e2,n2,h2⟩
     ·simp only [h2,st0,kr0,st70,GR,Fb,Fc,o7,o3,o2,o11,GU,kp0,cond_true,cond_false,Bool.not_true,Bool.not_false,Bool.false_and,Bool.and_false,Bool.true_and,Bool.and_true,bne_self_eq_false,beq_self_eq_true,if_true,if_false]
      rcases t3c (iadd x0 x1 y0 y1) with ⟨s0,s1,h3⟩|⟨s0,s1,e3,n3,h3⟩
      ·simp only [h3,st0,kr0,st70,GR,Fb,Fc,o7,o3,o2,o11,GU,kp0,cond_true,cond_false,Bool.not_true,Bool.not_false,Bool.false_and,Bool.and_false,Bool.true_and,Bool.and_true,bne_self_eq_false,beq_self_eq_true,if_true,if_false]
       rcases t3c (iadd s0 s1 z0 z1) with ⟨t0,t1,h4⟩|⟨t0,t1,e4,n4,h4⟩
       ·simp only [h4,st0,kr0,st70,GR,Fb,Fc,o7,o3,o2,o11,GU,kp0,cond_true,cond_false,Bool.not_true,Bool.not_false,Bool.false_and,Bool.and_false,Bool.true_and,Bool.and_true,bne_self_eq_false,beq_self_eq_true,if_true,if_false]
       ·simp only [h4,stE n4,krE n4,st7E n4,Hl n4,Fh n4,Fu n4,kpn _ n4,st0,kr0,st70,GR,Fb,Fc,o7,o3,o2,o11,GU,kp0,cond_true,cond_false,Bool.not_true,Bool.not_false,Bool.false_and,Bool.and_false,Bool.true_and,Bool.and_true,bne_self_eq_false,beq_self_eq_true,if_true,if_false]
      ·simp only [h3,stE n3,krE n3,st7E n3,Hl n3,Fh n3,Fu n3,kpn _ n3,st0,kr0,st70,GR,Fb,Fc,o7,o3,o2,o11,GU,kp0,cond_true,cond_false,Bool.not_true,Bool.not_false,Bool.false_and,Bool.and_false,Bool.true_and,Bool.and_true,bne_self_eq_false,beq_self_eq_true,if_true,if_false]
     ·simp only [h2,stE n2,krE n2,st7E n2,Hl n2,Fh n2,Fu n2,kpn _ n2,st0,kr0,st70,GR,Fb,Fc,o7,o3,o2,o11,GU,kp0,cond_true,cond_false,Bool.not_true,Bool.not_false,Bool.false_and,Bool.and_false,Bool.true_and,Bool.and_true,bne_self_eq_false,beq_self_eq_true,if_true,if_false]
    ·simp only [h1,stE n1,krE n1,st7E n1,Hl n1,Fh n1,Fu n1,kpn _ n1,st0,kr0,st70,GR,Fb,Fc,o7,o3,o2,o11,GU,kp0,cond_true,cond_false,Bool.not_true,Bool.not_false,Bool.false_and,Bool.and_false,Bool.true_and,Bool.and_true,bne_self_eq_false,beq_self_eq_true,if_true,if_false]
   ·simp only [hV0,hV1,h0,stE n0,krE n0,st7E n0,Hl n0,Fh n0,Fu n0,kpn _ n0,st0,kr0,st70,GR,Fb,Fc,o7,o3,o2,o11,GU,kp0,cond_true,cond_false,Bool.not_true,Bool.not_false,Bool.false_and,Bool.and_false,Bool.true_and,Bool.and_true,bne_self_eq_false,beq_self_eq_true,if_true,if_false]
end
theorem Ck.ok:SOK Tryz.prog 38 (Ck.sp Ck):=by
 refine Cq (E:=⟨[(24,Bu.sp Bu),(77,Az.sp Az),(78,Bt.sp Bt),(79,Ci.sp Ci)],[],[]⟩) (L:=[]) ⟨(Aa Bu.ok (Aa Az.ok (Aa Bt.ok (Aa Ci.ok Ac)))),Ai,Ad,Ah⟩ 60 Tryz.func38 (by decide) rfl Bs fun vs bl v bl' h=> ?_
 unfold Ck.sp at h
 split at h
 ·rename_i A2 A3 A8 A7 A6 A9 A5 A4 AF AE AH AG
  simp only [Option.some.injEq,Prod.mk.injEq,true_and] at h
  obtain ⟨rfl,rfl⟩:=h
  refine ⟨?_,by simp [okV,Nat.blt],clo_spec 8 _ (by kernel_rfl),As (by kernel_rfl)⟩
  refine (Ck.run Bu Az Bt Ci A2 A3 A8 A7 A6 A9 A5 A4 AF AE AH AG).trans ?_
  refine (Ck.nat Bu Az Bt Ci A2 A3 A8 A7 A6 A9 A5 A4 AF AE AH AG _).trans ?_
  kernel_rfl
 ·cases h
section
variable {R:Type} (AI:Int→Int→(Bool)) (A2:Int) (A3:Int)
def Ds.K (k:(Int)→R):R:=
 let t0:=AI A2 A3
 bif !t0 then k (0) else bif decide (A2>0) then k (1) else bif decide (A3<0) then k (-1) else k (0)
theorem Ds.run:xfn Tryz.prog ⟨[(21,Ab.sp AI)],[],[]⟩ [] 60 Tryz.f39 [.agg ⟨[.int .i64 A2,.int .i64 A3]⟩] []=Ds.K AI A2 A3 (fun r=>some (.int .i64 r,[])):=by kernel_rfl
def Ds:Int:=Ds.K Ab A2 A3 id
theorem Ds.nat (k:(Int)→R):Ds.K AI A2 A3 k=k (Ds.K AI A2 A3 id):=by
 simp only [Ds.K,acond k,id_eq]
end
theorem Ds.ok:SOK Tryz.prog 39 (Ds.sp Ds):=by
 refine Cq (E:=⟨[(21,Ab.sp Ab)],[],[]⟩) (L:=[]) ⟨(Aa Ab.ok Ac),Ai,Ad,Ah⟩ 60 Tryz.func39 (by decide) rfl Bs fun vs bl v bl' h=> ?_
 unfold Ds.sp at h
 split at h
 ·rename_i A2 A3
  simp only [Option.some.injEq,Prod.mk.injEq,true_and] at h
  obtain ⟨rfl,rfl⟩:=h
  refine ⟨?_,by simp [okV,Nat.blt],clo_spec 8 _ (by kernel_rfl),As (by kernel_rfl)⟩
  refine (Ds.run Ab A2 A3).trans ?_
  refine (Ds.nat Ab A2 A3 _).trans ?_
  kernel_rfl
 ·cases h
section
variable {R:Type} (AI:Int→Int→(Bool)) (BR:Int→Int→(Int×Int×Int)) (BU:Int→Int→(Int)) (C7:Int→Int→(Int)) (A2:Int) (A3:Int)
def Br.K (k:Int×Int×Int→R):R:=
 let t0:=AI A2 A3
 bif !t0 then k (0,0,1) else bif decide (A2≤0) then bif decide (A3≥0) then
 let t1:=BU 0 16777216
 let t2:=C7 (mx (mx (IntKind.i64.wrap (A2*A2)) (IntKind.i64.wrap (A2*A2))) (IntKind.i64.wrap (A3*A3))) 16777216
 let t3:=BR t1 t2
 k (t3.1,t3.2.1,t3.2.2) else
 let t4:=BU (mn (mn (IntKind.i64.wrap (A2*A2)) (IntKind.i64.wrap (A2*A2))) (IntKind.i64.wrap (A3*A3))) 16777216
 let t5:=C7 (mx (mx (IntKind.i64.wrap (A2*A2)) (IntKind.i64.wrap (A2*A2))) (IntKind.i64.wrap (A3*A3))) 16777216
 let t6:=BR t4 t5
 k (t6.1,t6.2.1,t6.2.2) else
 let t7:=BU (mn (mn (IntKind.i64.wrap (A2*A2)) (IntKind.i64.wrap (A2*A2))) (IntKind.i64.wrap (A3*A3))) 16777216
 let t8:=C7 (mx (mx (IntKind.i64.wrap (A2*A2)) (IntKind.i64.wrap (A2*A2))) (IntKind.i64.wrap (A3*A3))) 16777216
 let t9:=BR t7 t8
 k (t9.1,t9.2.1,t9.2.2)
theorem Br.run:xfn Tryz.prog ⟨[(21,Ab.sp AI),(61,Fa.sp),(62,At.sp BR),(63,Ax.sp BU),(64,Bn.sp C7)],[],[]⟩ [] 60 Tryz.f23 [.agg ⟨[.int .i64 A2,.int .i64 A3]⟩] []=Br.K AI BR BU C7 A2 A3 (fun r=>some (.tuple ⟨[.agg ⟨[.int .i64 r.1,.int .i64 r.2.1]⟩,.int .i64 r.2.2]⟩,[])):=by kernel_rfl
def Br:Int×Int×Int:=Br.K Ab At Ax Bn A2 A3 id
theorem Br.nat (k:Int×Int×Int→R):Br.K AI BR BU C7 A2 A3 k=k (Br.K AI BR BU C7 A2 A3 id):=by
 simp only [Br.K,acond k,id_eq]
end
theorem Br.ok:SOK Tryz.prog 23 (Br.sp Br):=by
 refine Cq (E:=⟨[(21,Ab.sp Ab),(61,Fa.sp),(62,At.sp At),(63,Ax.sp Ax),(64,Bn.sp Bn)],[],[]⟩) (L:=[]) ⟨(Aa Ab.ok (Aa Fa.ok (Aa At.ok (Aa Ax.ok (Aa Bn.ok Ac))))),Ai,Ad,Ah⟩ 60 Tryz.func23 (by decide) rfl Bs fun vs bl v bl' h=> ?_
 unfold Br.sp at h
 split at h
 ·rename_i A2 A3
  simp only [Option.some.injEq,Prod.mk.injEq,true_and] at h
  obtain ⟨rfl,rfl⟩:=h
  refine ⟨?_,by simp [okV,Nat.blt],clo_spec 8 _ (by kernel_rfl),As (by kernel_rfl)⟩
  refine (Br.run Ab At Ax Bn A2 A3).trans ?_
  refine (Br.nat Ab At Ax Bn A2 A3 _).trans ?_
  kernel_rfl
 ·cases h
section
variable {R:Type} (AI:Int→Int→(Bool)) (BR:Int→Int→(Int×Int×Int)) (A2:Int) (A3:Int)
def Cg.K (k:Int×Int×Int→R):R:=
 let t0:=AI A2 A3
 bif !t0 then k (0,0,1) else bif decide (A2<0) then k (0,0,2) else bif decide (IntKind.i64.wrap (root.rt 32 (IntKind.i64.wrap (A3*16777216)) 0*root.rt 32 (IntKind.i64.wrap (A3*16777216)) 0)<IntKind.i64.wrap (A3*16777216)) then
 let t1:=BR (root.rt 32 (IntKind.i64.wrap (A2*16777216)) 0) (IntKind.i64.wrap (root.rt 32 (IntKind.i64.wrap (A3*16777216)) 0+1))
 k (t1.1,t1.2.1,t1.2.2) else
 let t2:=BR (root.rt 32 (IntKind.i64.wrap (A2*16777216)) 0) (root.rt 32 (IntKind.i64.wrap (A3*16777216)) 0)
 k (t2.1,t2.2.1,t2.2.2)
theorem Cg.run:xfn Tryz.prog ⟨[(21,Ab.sp AI),(62,At.sp BR),(80,Gz.sp)],[],[]⟩ [] 60 Tryz.f42 [.agg ⟨[.int .i64 A2,.int .i64 A3]⟩] []=Cg.K AI BR A2 A3 (fun r=>some (.tuple ⟨[.agg ⟨[.int .i64 r.1,.int .i64 r.2.1]⟩,.int .i64 r.2.2]⟩,[])):=by kernel_rfl
def Cg:Int×Int×Int:=Cg.K Ab At A2 A3 id
theorem Cg.nat (k:Int×Int×Int→R):Cg.K AI BR A2 A3 k=k (Cg.K AI BR A2 A3 id):=by
 simp only [Cg.K,acond k,id_eq]
end
theorem Cg.ok:SOK Tryz.prog 42 (Cg.sp Cg):=by
 refine Cq (E:=⟨[(21,Ab.sp Ab),(62,At.sp At),(80,Gz.sp)],[],[]⟩) (L:=[]) ⟨(Aa Ab.ok (Aa At.ok (Aa Gz.ok Ac))),Ai,Ad,Ah⟩ 60 Tryz.func42 (by decide) rfl Bs fun vs bl v bl' h=> ?_
 unfold Cg.sp at h
 split at h
 ·rename_i A2 A3
  simp only [Option.some.injEq,Prod.mk.injEq,true_and] at h
  obtain ⟨rfl,rfl⟩:=h
  refine ⟨?_,by simp [okV,Nat.blt],clo_spec 8 _ (by kernel_rfl),As (by kernel_rfl)⟩
  refine (Cg.run Ab At A2 A3).trans ?_
  refine (Cg.nat Ab At A2 A3 _).trans ?_
  kernel_rfl
 ·cases h
section
variable {R:Type} (AI:Int→Int→(Bool)) (BR:Int→Int→(Int×Int×Int)) (A2:Int) (A3:Int)
def De.K (k:Int×Int×Int→R):R:=
 let t0:=AI A2 A3
 bif !t0 then k (0,0,1) else
 let t1:=BR (IntKind.i64.wrap (0-A3)) (IntKind.i64.wrap (0-A2))
 k (t1.1,t1.2.1,t1.2.2)
theorem De.run:xfn Tryz.prog ⟨[(21,Ab.sp AI),(62,At.sp BR)],[],[]⟩ [] 60 Tryz.f43 [.agg ⟨[.int .i64 A2,.int .i64 A3]⟩] []=De.K AI BR A2 A3 (fun r=>some (.tuple ⟨[.agg ⟨[.int .i64 r.1,.int .i64 r.2.1]⟩,.int .i64 r.2.2]⟩,[])):=by kernel_rfl
def De:Int×Int×Int:=De.K Ab At A2 A3 id
theorem De.nat (k:Int×Int×Int→R):De.K AI BR A2 A3 k=k (De.K AI BR A2 A3 id):=by
 simp only [De.K,acond k,id_eq]
end
theorem De.ok:SOK Tryz.prog 43 (De.sp De):=by
 refine Cq (E:=⟨[(21,Ab.sp Ab),(62,At.sp At)],[],[]⟩) (L:=[]) ⟨(Aa Ab.ok (Aa At.ok Ac)),Ai,Ad,Ah⟩ 60 Tryz.func43 (by decide) rfl Bs fun vs bl v bl' h=> ?_
 unfold De.sp at h
 split at h
 ·rename_i A2 A3
  simp only [Option.some.injEq,Prod.mk.injEq,true_and] at h
  obtain ⟨rfl,rfl⟩:=h
  refine ⟨?_,by simp [okV,Nat.blt],clo_spec 8 _ (by kernel_rfl),As (by kernel_rfl)⟩
  refine (De.run Ab At A2 A3).trans ?_
  refine (De.nat Ab At A2 A3 _).trans ?_
  kernel_rfl
 ·cases h
section
variable {R:Type} (BV:Int→Int→(Int×Int×Int)) (C6:Int→Int→(Int×Int×Int)) (CN:Int→Int→(Int×Int×Int)) (s0_0:Int) (AM:Int) (AL:Int)
def Aw.K {R:Type} (BV:Int→Int→(Int×Int×Int)) (C6:Int→Int→(Int×Int×Int)) (CN:Int→Int→(Int×Int×Int)) (s0_0:Int) (AM:Int) (AL:Int) (k:Int×Int×Int→R):R:=
 bif s0_0 !=0 then k (AM,AL,s0_0) else
 let t0:=BV AM AL
 k (t0.1,t0.2.1,t0.2.2)
theorem Aw.run:xfn Tryz.prog ⟨[(23,Br.sp BV),(42,Cg.sp C6),(43,De.sp CN)],[],[]⟩ [] 60 Tryz.f41 [.pointer (some ⟨0,0,none⟩),.func (.func 23) ⟨[]⟩ ⟨[]⟩,.agg ⟨[.int .i64 AM,.int .i64 AL]⟩] [.cs [.int .i64 s0_0] 76]=Aw.K BV C6 CN s0_0 AM AL (fun r=>some (.agg ⟨[.int .i64 r.1,.int .i64 r.2.1]⟩,[.cs [.int .i64 r.2.2] 76])):=by kernel_rfl
def Aw:Int×Int×Int:=Aw.K Br Cg De s0_0 AM AL id
theorem Aw.nat (k:Int×Int×Int→R):Aw.K BV C6 CN s0_0 AM AL k=k (Aw.K BV C6 CN s0_0 AM AL id):=by
 simp only [Aw.K,acond k,id_eq]
end
section
variable {R:Type} (BV:Int→Int→(Int×Int×Int)) (C6:Int→Int→(Int×Int×Int)) (CN:Int→Int→(Int×Int×Int)) (s0_0:Int) (AM:Int) (AL:Int)
def Be.K {R:Type} (BV:Int→Int→(Int×Int×Int)) (C6:Int→Int→(Int×Int×Int)) (CN:Int→Int→(Int×Int×Int)) (s0_0:Int) (AM:Int) (AL:Int) (k:Int×Int×Int→R):R:=
 bif s0_0 !=0 then k (AM,AL,s0_0) else
 let t0:=C6 AM AL
 k (t0.1,t0.2.1,t0.2.2)
theorem Be.run:xfn Tryz.prog ⟨[(23,Br.sp BV),(42,Cg.sp C6),(43,De.sp CN)],[],[]⟩ [] 60 Tryz.f41 [.pointer (some ⟨0,0,none⟩),.func (.func 42) ⟨[]⟩ ⟨[]⟩,.agg ⟨[.int .i64 AM,.int .i64 AL]⟩] [.cs [.int .i64 s0_0] 76]=Be.K BV C6 CN s0_0 AM AL (fun r=>some (.agg ⟨[.int .i64 r.1,.int .i64 r.2.1]⟩,[.cs [.int .i64 r.2.2] 76])):=by kernel_rfl
def Be:Int×Int×Int:=Be.K Br Cg De s0_0 AM AL id
theorem Be.nat (k:Int×Int×Int→R):Be.K BV C6 CN s0_0 AM AL k=k (Be.K BV C6 CN s0_0 AM AL id):=by
 simp only [Be.K,acond k,id_eq]
end
section
variable {R:Type} (BV:Int→Int→(Int×Int×Int)) (C6:Int→Int→(Int×Int×Int)) (CN:Int→Int→(Int×Int×Int)) (s0_0:Int) (AM:Int) (AL:Int)
def Bg.K {R:Type} (BV:Int→Int→(Int×Int×Int)) (C6:Int→Int→(Int×Int×Int)) (CN:Int→Int→(Int×Int×Int)) (s0_0:Int) (AM:Int) (AL:Int) (k:Int×Int×Int→R):R:=
 bif s0_0 !=0 then k (AM,AL,s0_0) else
 let t0:=CN AM AL
 k (t0.1,t0.2.1,t0.2.2)
theorem Bg.run:xfn Tryz.prog ⟨[(23,Br.sp BV),(42,Cg.sp C6),(43,De.sp CN)],[],[]⟩ [] 60 Tryz.f41 [.pointer (some ⟨0,0,none⟩),.func (.func 43) ⟨[]⟩ ⟨[]⟩,.agg ⟨[.int .i64 AM,.int .i64 AL]⟩] [.cs [.int .i64 s0_0] 76]=Bg.K BV C6 CN s0_0 AM AL (fun r=>some (.agg ⟨[.int .i64 r.1,.int .i64 r.2.1]⟩,[.cs [.int .i64 r.2.2] 76])):=by kernel_rfl
def Bg:Int×Int×Int:=Bg.K Br Cg De s0_0 AM AL id
theorem Bg.nat (k:Int×Int×Int→R):Bg.K BV C6 CN s0_0 AM AL k=k (Bg.K BV C6 CN s0_0 AM AL id):=by
 simp only [Bg.K,acond k,id_eq]
end
theorem Er.ok:SOK Tryz.prog 41 (Er.sp Aw Be Bg):=by
 refine Cq (E:=⟨[(23,Br.sp Br),(42,Cg.sp Cg),(43,De.sp De)],[],[]⟩) (L:=[]) ⟨(Aa Br.ok (Aa Cg.ok (Aa De.ok Ac))),Ai,Ad,Ah⟩ 60 Tryz.func41 (by decide) rfl Bs fun vs bl v bl' h=> ?_
 unfold Er.sp at h
 split at h
 ·rename_i AM AL s0_0
  simp only [Option.some.injEq,Prod.mk.injEq,true_and] at h
  obtain ⟨rfl,rfl⟩:=h
  refine ⟨?_,by simp [okV,Nat.blt],clo_spec 8 _ (by kernel_rfl),As (by kernel_rfl)⟩
  refine (Aw.run Br Cg De s0_0 AM AL).trans ?_
  refine (Aw.nat Br Cg De s0_0 AM AL _).trans ?_
  kernel_rfl
 ·rename_i AM AL s0_0
  simp only [Option.some.injEq,Prod.mk.injEq,true_and] at h
  obtain ⟨rfl,rfl⟩:=h
  refine ⟨?_,by simp [okV,Nat.blt],clo_spec 8 _ (by kernel_rfl),As (by kernel_rfl)⟩
  refine (Be.run Br Cg De s0_0 AM AL).trans ?_
  refine (Be.nat Br Cg De s0_0 AM AL _).trans ?_
  kernel_rfl
 ·rename_i AM AL s0_0
  simp only [Option.some.injEq,Prod.mk.injEq,true_and] at h
  obtain ⟨rfl,rfl⟩:=h
  refine ⟨?_,by simp [okV,Nat.blt],clo_spec 8 _ (by kernel_rfl),As (by kernel_rfl)⟩
  refine (Bg.run Br Cg De s0_0 AM AL).trans ?_
  refine (Bg.nat Br Cg De s0_0 AM AL _).trans ?_
  kernel_rfl
 ·cases h
section
variable {R:Type} (AR:Int→Int→Int→Int→(Int×Int×Int)) (AU:Int→Int→Int→Int→(Int×Int×Int)) (BJ:Int→Int→Int→Int→(Int×Int×Int)) (BK:Int→Int→Int→Int→(Int×Int×Int)) (s0_0:Int) (AM:Int) (AL:Int) (C4:Int) (C3:Int)
def Aj.K {R:Type} (AR:Int→Int→Int→Int→(Int×Int×Int)) (AU:Int→Int→Int→Int→(Int×Int×Int)) (BJ:Int→Int→Int→Int→(Int×Int×Int)) (BK:Int→Int→Int→Int→(Int×Int×Int)) (s0_0:Int) (AM:Int) (AL:Int) (C4:Int) (C3:Int) (k:Int×Int×Int→R):R:=
 bif s0_0 !=0 then k (AM,AL,s0_0) else
 let t0:=BJ AM AL C4 C3
 k (t0.1,t0.2.1,t0.2.2)
theorem Aj.run:xfn Tryz.prog ⟨[(46,Ak.sp AR),(47,Au.sp AU),(50,Bf.sp BJ),(54,Bb.sp BK)],[],[]⟩ [] 60 Tryz.f45 [.pointer (some ⟨0,0,none⟩),.func (.func 50) ⟨[]⟩ ⟨[]⟩,.agg ⟨[.int .i64 AM,.int .i64 AL]⟩,.agg ⟨[.int .i64 C4,.int .i64 C3]⟩] [.cs [.int .i64 s0_0] 76]=Aj.K AR AU BJ BK s0_0 AM AL C4 C3 (fun r=>some (.agg ⟨[.int .i64 r.1,.int .i64 r.2.1]⟩,[.cs [.int .i64 r.2.2] 76])):=by kernel_rfl
def Aj:Int×Int×Int:=Aj.K Ak Au Bf Bb s0_0 AM AL C4 C3 id
theorem Aj.nat (k:Int×Int×Int→R):Aj.K AR AU BJ BK s0_0 AM AL C4 C3 k=k (Aj.K AR AU BJ BK s0_0 AM AL C4 C3 id):=by
 simp only [Aj.K,acond k,id_eq]
theorem Aj.eq (s a b c d:Int):Aj s a b c d=st s a b (iadd a b c d):=by
 simp only [Aj,Aj.K,id_eq,Bf.eq,st]
end
section
variable {R:Type} (AR:Int→Int→Int→Int→(Int×Int×Int)) (AU:Int→Int→Int→Int→(Int×Int×Int)) (BJ:Int→Int→Int→Int→(Int×Int×Int)) (BK:Int→Int→Int→Int→(Int×Int×Int)) (s0_0:Int) (AM:Int) (AL:Int) (C4:Int) (C3:Int)
def Ap.K {R:Type} (AR:Int→Int→Int→Int→(Int×Int×Int)) (AU:Int→Int→Int→Int→(Int×Int×Int)) (BJ:Int→Int→Int→Int→(Int×Int×Int)) (BK:Int→Int→Int→Int→(Int×Int×Int)) (s0_0:Int) (AM:Int) (AL:Int) (C4:Int) (C3:Int) (k:Int×Int×Int→R):R:=
 bif s0_0 !=0 then k (AM,AL,s0_0) else
 let t0:=AR AM AL C4 C3
 k (t0.1,t0.2.1,t0.2.2)
theorem Ap.run:xfn Tryz.prog ⟨[(46,Ak.sp AR),(47,Au.sp AU),(50,Bf.sp BJ),(54,Bb.sp BK)],[],[]⟩ [] 60 Tryz.f45 [.pointer (some ⟨0,0,none⟩),.func (.func 46) ⟨[]⟩ ⟨[]⟩,.agg ⟨[.int .i64 AM,.int .i64 AL]⟩,.agg ⟨[.int .i64 C4,.int .i64 C3]⟩] [.cs [.int .i64 s0_0] 76]=Ap.K AR AU BJ BK s0_0 AM AL C4 C3 (fun r=>some (.agg ⟨[.int .i64 r.1,.int .i64 r.2.1]⟩,[.cs [.int .i64 r.2.2] 76])):=by kernel_rfl
def Ap:Int×Int×Int:=Ap.K Ak Au Bf Bb s0_0 AM AL C4 C3 id
theorem Ap.nat (k:Int×Int×Int→R):Ap.K AR AU BJ BK s0_0 AM AL C4 C3 k=k (Ap.K AR AU BJ BK s0_0 AM AL C4 C3 id):=by
 simp only [Ap.K,acond k,id_eq]
end
section
variable {R:Type} (AR:Int→Int→Int→Int→(Int×Int×Int)) (AU:Int→Int→Int→Int→(Int×Int×Int)) (BJ:Int→Int→Int→Int→(Int×Int×Int)) (BK:Int→Int→Int→Int→(Int×Int×Int)) (s0_0:Int) (AM:Int) (AL:Int) (C4:Int) (C3:Int)
def Aq.K {R:Type} (AR:Int→Int→Int→Int→(Int×Int×Int)) (AU:Int→Int→Int→Int→(Int×Int×Int)) (BJ:Int→Int→Int→Int→(Int×Int×Int)) (BK:Int→Int→Int→Int→(Int×Int×Int)) (s0_0:Int) (AM:Int) (AL:Int) (C4:Int) (C3:Int) (k:Int×Int×Int→R):R:=
 bif s0_0 !=0 then k (AM,AL,s0_0) else
 let t0:=AU AM AL C4 C3
 k (t0.1,t0.2.1,t0.2.2)
theorem Aq.run:xfn Tryz.prog ⟨[(46,Ak.sp AR),(47,Au.sp AU),(50,Bf.sp BJ),(54,Bb.sp BK)],[],[]⟩ [] 60 Tryz.f45 [.pointer (some ⟨0,0,none⟩),.func (.func 47) ⟨[]⟩ ⟨[]⟩,.agg ⟨[.int .i64 AM,.int .i64 AL]⟩,.agg ⟨[.int .i64 C4,.int .i64 C3]⟩] [.cs [.int .i64 s0_0] 76]=Aq.K AR AU BJ BK s0_0 AM AL C4 C3 (fun r=>some (.agg ⟨[.int .i64 r.1,.int .i64 r.2.1]⟩,[.cs [.int .i64 r.2.2] 76])):=by kernel_rfl
def Aq:Int×Int×Int:=Aq.K Ak Au Bf Bb s0_0 AM AL C4 C3 id
theorem Aq.nat (k:Int×Int×Int→R):Aq.K AR AU BJ BK s0_0 AM AL C4 C3 k=k (Aq.K AR AU BJ BK s0_0 AM AL C4 C3 id):=by
 simp only [Aq.K,acond k,id_eq]
end
section
variable {R:Type} (AR:Int→Int→Int→Int→(Int×Int×Int)) (AU:Int→Int→Int→Int→(Int×Int×Int)) (BJ:Int→Int→Int→Int→(Int×Int×Int)) (BK:Int→Int→Int→Int→(Int×Int×Int)) (s0_0:Int) (AM:Int) (AL:Int) (C4:Int) (C3:Int)
def Ar.K {R:Type} (AR:Int→Int→Int→Int→(Int×Int×Int)) (AU:Int→Int→Int→Int→(Int×Int×Int)) (BJ:Int→Int→Int→Int→(Int×Int×Int)) (BK:Int→Int→Int→Int→(Int×Int×Int)) (s0_0:Int) (AM:Int) (AL:Int) (C4:Int) (C3:Int) (k:Int×Int×Int→R):R:=
 bif s0_0 !=0 then k (AM,AL,s0_0) else
 let t0:=BK AM AL C4 C3
 k (t0.1,t0.2.1,t0.2.2)
theorem Ar.run:xfn Tryz.prog ⟨[(46,Ak.sp AR),(47,Au.sp AU),(50,Bf.sp BJ),(54,Bb.sp BK)],[],[]⟩ [] 60 Tryz.f45 [.pointer (some ⟨0,0,none⟩),.func (.func 54) ⟨[]⟩ ⟨[]⟩,.agg ⟨[.int .i64 AM,.int .i64 AL]⟩,.agg ⟨[.int .i64 C4,.int .i64 C3]⟩] [.cs [.int .i64 s0_0] 76]=Ar.K AR AU BJ BK s0_0 AM AL C4 C3 (fun r=>some (.agg ⟨[.int .i64 r.1,.int .i64 r.2.1]⟩,[.cs [.int .i64 r.2.2] 76])):=by kernel_rfl
def Ar:Int×Int×Int:=Ar.K Ak Au Bf Bb s0_0 AM AL C4 C3 id
theorem Ar.nat (k:Int×Int×Int→R):Ar.K AR AU BJ BK s0_0 AM AL C4 C3 k=k (Ar.K AR AU BJ BK s0_0 AM AL C4 C3 id):=by
 simp only [Ar.K,acond k,id_eq]
end
theorem Ef.ok:SOK Tryz.prog 45 (Ef.sp Aj Ap Aq Ar):=by
 refine Cq (E:=⟨[(46,Ak.sp Ak),(47,Au.sp Au),(50,Bf.sp Bf),(54,Bb.sp Bb)],[],[]⟩) (L:=[]) ⟨(Aa Ak.ok (Aa Au.ok (Aa Bf.ok (Aa Bb.ok Ac)))),Ai,Ad,Ah⟩ 60 Tryz.func45 (by decide) rfl Bs fun vs bl v bl' h=> ?_
 unfold Ef.sp at h
 split at h
 ·rename_i AM AL C4 C3 s0_0
  simp only [Option.some.injEq,Prod.mk.injEq,true_and] at h
  obtain ⟨rfl,rfl⟩:=h
  refine ⟨?_,by simp [okV,Nat.blt],clo_spec 8 _ (by kernel_rfl),As (by kernel_rfl)⟩
  refine (Aj.run Ak Au Bf Bb s0_0 AM AL C4 C3).trans ?_
  refine (Aj.nat Ak Au Bf Bb s0_0 AM AL C4 C3 _).trans ?_
  kernel_rfl
 ·rename_i AM AL C4 C3 s0_0
  simp only [Option.some.injEq,Prod.mk.injEq,true_and] at h
  obtain ⟨rfl,rfl⟩:=h
  refine ⟨?_,by simp [okV,Nat.blt],clo_spec 8 _ (by kernel_rfl),As (by kernel_rfl)⟩
  refine (Ap.run Ak Au Bf Bb s0_0 AM AL C4 C3).trans ?_
  refine (Ap.nat Ak Au Bf Bb s0_0 AM AL C4 C3 _).trans ?_
  kernel_rfl
 ·rename_i AM AL C4 C3 s0_0
  simp only [Option.some.injEq,Prod.mk.injEq,true_and] at h
  obtain ⟨rfl,rfl⟩:=h
  refine ⟨?_,by simp [okV,Nat.blt],clo_spec 8 _ (by kernel_rfl),As (by kernel_rfl)⟩
  refine (Aq.run Ak Au Bf Bb s0_0 AM AL C4 C3).trans ?_
  refine (Aq.nat Ak Au Bf Bb s0_0 AM AL C4 C3 _).trans ?_
  kernel_rfl
 ·rename_i AM AL C4 C3 s0_0
  simp only [Option.some.injEq,Prod.mk.injEq,true_and] at h
  obtain ⟨rfl,rfl⟩:=h
  refine ⟨?_,by simp [okV,Nat.blt],clo_spec 8 _ (by kernel_rfl),As (by kernel_rfl)⟩
  refine (Ar.run Ak Au Bf Bb s0_0 AM AL C4 C3).trans ?_
  refine (Ar.nat Ak Au Bf Bb s0_0 AM AL C4 C3 _).trans ?_
  kernel_rfl
 ·cases h
end Go.Proofs.YtphlckkbihmlnaaGreatDoor.G
end
