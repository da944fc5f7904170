/- A part of what the law's proof leans on. PACKED BY pack.py of this repo. -/
import Derived.Test.YtphlckkbihmlnaaGreatDoorK15
set_option linter.unusedVariables false
set_option linter.unusedSimpArgs false
set_option linter.unusedSectionVars false
set_option linter.defProp false
set_option maxRecDepth 100000
open Go.IntKind (i64 u64 u32)
section
namespace Go.Proofs.YtphlckkbihmlnaaGreatDoor.G
open Go Go.Proofs Go.RowKit RX
def Cs.K {R:Type} (a0:Int) (k:Int×Int×Int×Int×Int×Int×Int×Int×Int×Int×Int→R):R:=
 k (0,0,0,0,0,0,0,0,0,0,a0)
theorem Cs.run (a0:Int):xfn Tryz.prog ⟨[],[],[]⟩ [] 60 Tryz.f36 [.int .i64 a0] []=Cs.K a0 (fun r=>some (.tuple ⟨[.agg ⟨[.int .i64 r.1,.int .i64 r.2.1,.int .i64 r.2.2.1,.int .i64 r.2.2.2.1,.int .i64 r.2.2.2.2.1,.int .i64 r.2.2.2.2.2.1]⟩,.agg ⟨[.int .i64 r.2.2.2.2.2.2.1,.int .i64 r.2.2.2.2.2.2.2.1]⟩,.agg ⟨[.int .i64 r.2.2.2.2.2.2.2.2.1,.int .i64 r.2.2.2.2.2.2.2.2.2.1]⟩,.int .i64 r.2.2.2.2.2.2.2.2.2.2]⟩,[])):=by kernel_rfl
def Cs (a0:Int):Int×Int×Int×Int×Int×Int×Int×Int×Int×Int×Int:=Cs.K a0 id
theorem Cs.nat {R:Type} (a0:Int) (k:Int×Int×Int×Int×Int×Int×Int×Int×Int×Int×Int→R):Cs.K a0 k=k (Cs.K a0 id):=by
 simp only [Cs.K,acond k,id_eq]
theorem Cs.eq (e:Int):Cs e=(0,0,0,0,0,0,0,0,0,0,e):=rfl
theorem Cs.ok:SOK Tryz.prog 36 (Cs.sp Cs):=by
 refine Cu (E:=⟨[],[],[]⟩) (L:=[]) ⟨Ac,Ai,Ad,Ah⟩ 60 Tryz.func36 (by decide) rfl Bv fun vs bl v bl' h=> ?_
 unfold Cs.sp at h
 split at h
 ·rename_i a0
  simp only [zS,zP,true_and] at h
  obtain ⟨rfl,rfl⟩:=h
  refine ⟨?_,by simp [okV,Nat.blt],clo_spec 8 _ (by kernel_rfl),Ay (by kernel_rfl)⟩
  refine (Cs.run a0).trans ?_
  refine (Cs.nat a0 _).trans ?_
  kernel_rfl
 ·cases h
section
variable {R:Type} (A2:Int) (A3:Int)
def Ab.K (k:(Bool)→R):R:=
 bif decide (A2≤A3) then bif decide (A2≥ -1073741824) then k (decide (A3≤1073741824)) else k (false) else k (false)
theorem Ab.run:xfn Tryz.prog ⟨[],[],[]⟩ [] 60 Tryz.f21 [.agg ⟨[.int .i64 A2,.int .i64 A3]⟩] []=Ab.K A2 A3 (fun r=>some (.bool r,[])):=by kernel_rfl
def Ab:Bool:=Ab.K A2 A3 id
theorem Ab.nat (k:(Bool)→R):Ab.K A2 A3 k=k (Ab.K A2 A3 id):=by
 simp only [Ab.K,acond k,id_eq]
theorem Ab.eq (a b:Int):Ab a b=V a b:=by
 simp only [Ab,Ab.K,id_eq,V]
 by_cases h1:a≤b<;>by_cases h2:a≥ -1073741824<;>by_cases h3:b≤1073741824<;>simp [h1,h2,h3]<;>omega
end
theorem Ab.ok:SOK Tryz.prog 21 (Ab.sp Ab):=by
 refine Cu (E:=⟨[],[],[]⟩) (L:=[]) ⟨Ac,Ai,Ad,Ah⟩ 60 Tryz.func21 (by decide) rfl Bv fun vs bl v bl' h=> ?_
 unfold Ab.sp at h
 split at h
 ·rename_i A2 A3
  simp only [zS,zP,true_and] at h
  obtain ⟨rfl,rfl⟩:=h
  refine ⟨?_,by simp [okV,Nat.blt],clo_spec 8 _ (by kernel_rfl),Ay (by kernel_rfl)⟩
  refine (Ab.run A2 A3).trans ?_
  refine (Ab.nat A2 A3 _).trans ?_
  kernel_rfl
 ·cases h
section
variable {R:Type} (AI:Int→Int→(Bool)) (A2:Int) (A3:Int) (A8:Int) (A7:Int) (A6:Int) (A9:Int)
def Bk.K (k:(Bool)→R):R:=
 let t0:=AI A2 A3
 bif t0 then
 let t1:=AI A8 A7
 bif t1 then
 let t2:=AI A6 A9
 k (t2) else k (false) else k (false)
theorem Bk.run:xfn Tryz.prog ⟨[(21,Ab.sp AI)],[],[]⟩ [] 60 Tryz.f77 [.agg ⟨[.int .i64 A2,.int .i64 A3,.int .i64 A8,.int .i64 A7,.int .i64 A6,.int .i64 A9]⟩] []=Bk.K AI A2 A3 A8 A7 A6 A9 (fun r=>some (.bool r,[])):=by kernel_rfl
def Bk:Bool:=Bk.K Ab A2 A3 A8 A7 A6 A9 id
theorem Bk.nat (k:(Bool)→R):Bk.K AI A2 A3 A8 A7 A6 A9 k=k (Bk.K AI A2 A3 A8 A7 A6 A9 id):=by
 simp only [Bk.K,acond k,id_eq]
theorem Bk.eq (a0 a1 a2 a3 a4 a5:Int):Bk a0 a1 a2 a3 a4 a5=VB ((a0,a1),(a2,a3),(a4,a5)):=by
 simp only [Bk,Bk.K,id_eq,Ab.eq,VB,V2]
 cases V a0 a1<;>cases V a2 a3<;>cases V a4 a5<;>rfl
end
theorem Bk.ok:SOK Tryz.prog 77 (Bk.sp Bk):=by
 refine Cu (E:=⟨[(21,Ab.sp Ab)],[],[]⟩) (L:=[]) ⟨(Aa Ab.ok Ac),Ai,Ad,Ah⟩ 60 Tryz.func77 (by decide) rfl Bv fun vs bl v bl' h=> ?_
 unfold Bk.sp at h
 split at h
 ·rename_i A2 A3 A8 A7 A6 A9
  simp only [zS,zP,true_and] at h
  obtain ⟨rfl,rfl⟩:=h
  refine ⟨?_,by simp [okV,Nat.blt],clo_spec 8 _ (by kernel_rfl),Ay (by kernel_rfl)⟩
  refine (Bk.run Ab A2 A3 A8 A7 A6 A9).trans ?_
  refine (Bk.nat Ab A2 A3 A8 A7 A6 A9 _).trans ?_
  kernel_rfl
 ·cases h
section
variable {R:Type} (AI:Int→Int→(Bool)) (C7:Int→Int→Int→Int→Int→Int→(Bool)) (A2:Int) (A3:Int) (A8:Int) (A7:Int) (A6:Int) (A9:Int) (A5:Int) (A4:Int) (AF:Int) (AE:Int) (AH:Int) (AG:Int) (AJ:Int) (AK:Int)
def Co.K (k:(Bool)→R):R:=
 let t0:=C7 A2 A3 A8 A7 A6 A9
 bif t0 then
 let t1:=C7 A5 A4 AF AE AH AG
 bif t1 then
 let t2:=AI AJ AK
 k (t2) else k (false) else k (false)
theorem Co.run:xfn Tryz.prog ⟨[(21,Ab.sp AI),(77,Bk.sp C7)],[],[]⟩ [] 60 Tryz.f37 [.agg ⟨[.int .i64 A2,.int .i64 A3,.int .i64 A8,.int .i64 A7,.int .i64 A6,.int .i64 A9]⟩,.agg ⟨[.int .i64 A5,.int .i64 A4,.int .i64 AF,.int .i64 AE,.int .i64 AH,.int .i64 AG]⟩,.agg ⟨[.int .i64 AJ,.int .i64 AK]⟩] []=Co.K AI C7 A2 A3 A8 A7 A6 A9 A5 A4 AF AE AH AG AJ AK (fun r=>some (.bool r,[])):=by kernel_rfl
def Co:Bool:=Co.K Ab Bk A2 A3 A8 A7 A6 A9 A5 A4 AF AE AH AG AJ AK id
theorem Co.nat (k:(Bool)→R):Co.K AI C7 A2 A3 A8 A7 A6 A9 A5 A4 AF AE AH AG AJ AK k=k (Co.K AI C7 A2 A3 A8 A7 A6 A9 A5 A4 AF AE AH AG AJ AK id):=by
 simp only [Co.K,acond k,id_eq]
theorem Co.eq (a0 a1 a2 a3 a4 a5 b0 b1 b2 b3 b4 b5 r0 r1:Int):Co a0 a1 a2 a3 a4 a5 b0 b1 b2 b3 b4 b5 r0 r1=(VB ((a0,a1),(a2,a3),(a4,a5))&&(VB ((b0,b1),(b2,b3),(b4,b5))&&V2 (r0,r1))):=by
 simp only [Co,Co.K,id_eq,Bk.eq,Ab.eq,V2]
 cases VB ((a0,a1),(a2,a3),(a4,a5))<;>cases VB ((b0,b1),(b2,b3),(b4,b5))<;>cases V r0 r1<;>rfl
end
theorem Co.ok:SOK Tryz.prog 37 (Co.sp Co):=by
 refine Cu (E:=⟨[(21,Ab.sp Ab),(77,Bk.sp Bk)],[],[]⟩) (L:=[]) ⟨(Aa Ab.ok (Aa Bk.ok Ac)),Ai,Ad,Ah⟩ 60 Tryz.func37 (by decide) rfl Bv fun vs bl v bl' h=> ?_
 unfold Co.sp at h
 split at h
 ·rename_i A2 A3 A8 A7 A6 A9 A5 A4 AF AE AH AG AJ AK
  simp only [zS,zP,true_and] at h
  obtain ⟨rfl,rfl⟩:=h
  refine ⟨?_,by simp [okV,Nat.blt],clo_spec 8 _ (by kernel_rfl),Ay (by kernel_rfl)⟩
  refine (Co.run Ab Bk A2 A3 A8 A7 A6 A9 A5 A4 AF AE AH AG AJ AK).trans ?_
  refine (Co.nat Ab Bk A2 A3 A8 A7 A6 A9 A5 A4 AF AE AH AG AJ AK _).trans ?_
  kernel_rfl
 ·cases h
section
variable {R:Type} (a0:Int) (a1:Int)
def Ax.K (k:Int×Int×Int→R):R:=
 bif decide (a0< -1073741824) then k (0,0,3) else bif decide (a1>1073741824) then k (0,0,3) else k (a0,a1,0)
theorem Ax.run:xfn Tryz.prog ⟨[],[],[]⟩ [] 60 Tryz.f62 [.int .i64 a0,.int .i64 a1] []=Ax.K a0 a1 (fun r=>some (.tuple ⟨[.agg ⟨[.int .i64 r.1,.int .i64 r.2.1]⟩,.int .i64 r.2.2]⟩,[])):=by kernel_rfl
def Ax:Int×Int×Int:=Ax.K a0 a1 id
theorem Ax.nat (k:Int×Int×Int→R):Ax.K a0 a1 k=k (Ax.K a0 a1 id):=by
 simp only [Ax.K,acond k,id_eq]
theorem Ax.eq {a b:Int} (h:a≤b):Ax a b=chk a b:=by
 simp only [Ax,Ax.K,id_eq,chk]
 by_cases h1:a< -1073741824
 ·rw [V_not.2 (by omega)]; simp [h1]
 ·by_cases h2:b>1073741824
  ·rw [V_not.2 (by omega)]; simp [h1,h2]
  ·rw [Hf.2 ⟨by omega,h,by omega⟩]; simp [h1,h2]
end
theorem Ax.ok:SOK Tryz.prog 62 (Ax.sp Ax):=by
 refine Cu (E:=⟨[],[],[]⟩) (L:=[]) ⟨Ac,Ai,Ad,Ah⟩ 60 Tryz.func62 (by decide) rfl Bv fun vs bl v bl' h=> ?_
 unfold Ax.sp at h
 split at h
 ·rename_i a0 a1
  simp only [zS,zP,true_and] at h
  obtain ⟨rfl,rfl⟩:=h
  refine ⟨?_,by simp [okV,Nat.blt],clo_spec 8 _ (by kernel_rfl),Ay (by kernel_rfl)⟩
  refine (Ax.run a0 a1).trans ?_
  refine (Ax.nat a0 a1 _).trans ?_
  kernel_rfl
 ·cases h
section
variable {R:Type} (BS:Int→Int→(Int×Int×Int)) (AI:Int→Int→(Bool)) (A2:Int) (A3:Int) (A5:Int) (A4:Int)
def Br.K (k:Int×Int×Int→R):R:=
 let t0:=AI A2 A3
 bif !t0 then k (0,0,1) else
 let t1:=AI A5 A4
 bif !t1 then k (0,0,1) else
 let t2:=BS (i64.wrap (A2+A5)) (i64.wrap (A3+A4))
 k (t2.1,t2.2.1,t2.2.2)
theorem Br.run:xfn Tryz.prog ⟨[(62,Ax.sp BS),(21,Ab.sp AI)],[(82,Tryz.f82)],[]⟩ [] 60 Tryz.f50 [.agg ⟨[.int .i64 A2,.int .i64 A3]⟩,.agg ⟨[.int .i64 A5,.int .i64 A4]⟩] []=Br.K BS AI A2 A3 A5 A4 (fun r=>some (.tuple ⟨[.agg ⟨[.int .i64 r.1,.int .i64 r.2.1]⟩,.int .i64 r.2.2]⟩,[])):=by kernel_rfl
def Br:Int×Int×Int:=Br.K Ax Ab A2 A3 A5 A4 id
theorem Br.nat (k:Int×Int×Int→R):Br.K BS AI A2 A3 A5 A4 k=k (Br.K BS AI A2 A3 A5 A4 id):=by
 simp only [Br.K,acond k,id_eq]
theorem Br.eq (a b c d:Int):Br a b c d=iadd a b c d:=by
 simp only [Br,Br.K,id_eq,Ab.eq,iadd]
 cases h1:V a b with
 |false=>simp
 | true=>cases h2:V c d with
  |false=>simp
  | true=>
   have:=Hf.1 h1
   have:=Hf.1 h2
   rw [w64 (by omega) (by omega),w64 (by omega) (by omega),Ax.eq (by omega)]
   simp
end
theorem Br.ok:SOK Tryz.prog 50 (Br.sp Br):=by
 refine Cu (E:=⟨[(62,Ax.sp Ax),(21,Ab.sp Ab)],[(82,Tryz.f82)],[]⟩) (L:=[]) ⟨(Aa Ax.ok (Aa Ab.ok Ac)),(Fl ⟨Tryz.func82,by decide,rfl⟩ Ai),Ad,Ah⟩ 60 Tryz.func50 (by decide) rfl Bv fun vs bl v bl' h=> ?_
 unfold Br.sp at h
 split at h
 ·rename_i A2 A3 A5 A4
  simp only [zS,zP,true_and] at h
  obtain ⟨rfl,rfl⟩:=h
  refine ⟨?_,by simp [okV,Nat.blt],clo_spec 8 _ (by kernel_rfl),Ay (by kernel_rfl)⟩
  refine (Br.run Ax Ab A2 A3 A5 A4).trans ?_
  refine (Br.nat Ax Ab A2 A3 A5 A4 _).trans ?_
  kernel_rfl
 ·cases h
section
variable {R:Type} (s0_0:Int) (A5:Int) (A4:Int) (a2:Int)
def Aj.K (k:Int×Int×Int→R):R:=
 bif s0_0==0 then k (A5,A4,a2) else k (A5,A4,s0_0)
theorem Aj.run:xfn Tryz.prog ⟨[],[],[]⟩ [] 60 Tryz.f30 [.pointer (some ⟨0,0,none⟩),.agg ⟨[.int .i64 A5,.int .i64 A4]⟩,.int .i64 a2] [.cs [.int .i64 s0_0] 61]=Aj.K s0_0 A5 A4 a2 (fun r=>some (.agg ⟨[.int .i64 r.1,.int .i64 r.2.1]⟩,[.cs [.int .i64 r.2.2] 61])):=by kernel_rfl
def Aj:Int×Int×Int:=Aj.K s0_0 A5 A4 a2 id
theorem Aj.nat (k:Int×Int×Int→R):Aj.K s0_0 A5 A4 a2 k=k (Aj.K s0_0 A5 A4 a2 id):=by
 simp only [Aj.K,acond k,id_eq]
theorem Aj.eq (s a b e:Int):Aj s a b e=(a,b,kp s e):=by
 simp only [Aj,Aj.K,id_eq,kp]
 cases s==0<;>rfl
end
theorem Aj.ok:SOK Tryz.prog 30 (Aj.sp Aj):=by
 refine Cu (E:=⟨[],[],[]⟩) (L:=[]) ⟨Ac,Ai,Ad,Ah⟩ 60 Tryz.func30 (by decide) rfl Bv fun vs bl v bl' h=> ?_
 unfold Aj.sp at h
 split at h
 ·rename_i A5 A4 a2 s0_0
  simp only [zS,zP,true_and] at h
  obtain ⟨rfl,rfl⟩:=h
  refine ⟨?_,by simp [okV,Nat.blt],clo_spec 8 _ (by kernel_rfl),Ay (by kernel_rfl)⟩
  refine (Aj.run s0_0 A5 A4 a2).trans ?_
  refine (Aj.nat s0_0 A5 A4 a2 _).trans ?_
  kernel_rfl
 ·cases h
section
variable {R:Type} (BS:Int→Int→(Int×Int×Int)) (AI:Int→Int→(Bool)) (A2:Int) (A3:Int) (A5:Int) (A4:Int)
def Au.K (k:Int×Int×Int→R):R:=
 let t0:=AI A2 A3
 bif !t0 then k (0,0,1) else
 let t1:=AI A5 A4
 bif !t1 then k (0,0,1) else
 let t2:=BS (i64.wrap (A2-A4)) (i64.wrap (A3-A5))
 k (t2.1,t2.2.1,t2.2.2)
theorem Au.run:xfn Tryz.prog ⟨[(62,Ax.sp BS),(21,Ab.sp AI)],[(82,Tryz.f82)],[]⟩ [] 60 Tryz.f46 [.agg ⟨[.int .i64 A2,.int .i64 A3]⟩,.agg ⟨[.int .i64 A5,.int .i64 A4]⟩] []=Au.K BS AI A2 A3 A5 A4 (fun r=>some (.tuple ⟨[.agg ⟨[.int .i64 r.1,.int .i64 r.2.1]⟩,.int .i64 r.2.2]⟩,[])):=by kernel_rfl
def Au:Int×Int×Int:=Au.K Ax Ab A2 A3 A5 A4 id
theorem Au.nat (k:Int×Int×Int→R):Au.K BS AI A2 A3 A5 A4 k=k (Au.K BS AI A2 A3 A5 A4 id):=by
 simp only [Au.K,acond k,id_eq]
theorem Au.eq (a b c d:Int):Au a b c d=isub a b c d:=by
 simp only [Au,Au.K,id_eq,Ab.eq,isub]
 cases h1:V a b with
 |false=>simp
 | true=>cases h2:V c d with
  |false=>simp
  | true=>
   have:=Hf.1 h1
   have:=Hf.1 h2
   rw [w64 (by omega) (by omega),w64 (by omega) (by omega),Ax.eq (by omega)]
   simp
end
theorem Au.ok:SOK Tryz.prog 46 (Au.sp Au):=by
 refine Cu (E:=⟨[(62,Ax.sp Ax),(21,Ab.sp Ab)],[(82,Tryz.f82)],[]⟩) (L:=[]) ⟨(Aa Ax.ok (Aa Ab.ok Ac)),(Fl ⟨Tryz.func82,by decide,rfl⟩ Ai),Ad,Ah⟩ 60 Tryz.func46 (by decide) rfl Bv fun vs bl v bl' h=> ?_
 unfold Au.sp at h
 split at h
 ·rename_i A2 A3 A5 A4
  simp only [zS,zP,true_and] at h
  obtain ⟨rfl,rfl⟩:=h
  refine ⟨?_,by simp [okV,Nat.blt],clo_spec 8 _ (by kernel_rfl),Ay (by kernel_rfl)⟩
  refine (Au.run Ax Ab A2 A3 A5 A4).trans ?_
  refine (Au.nat Ax Ab A2 A3 A5 A4 _).trans ?_
  kernel_rfl
 ·cases h
def Az.K {R:Type} (a0:Int) (a1:Int) (k:(Int)→Option R):Option R:=
 bif a1 !=0 then bif a1 !=0 then bif a0.tmod a1 !=0 then bif decide (a0<0) then k (i64.wrap (i64.wrap (a0.tdiv a1)-1)) else k (i64.wrap (a0.tdiv a1)) else k (i64.wrap (a0.tdiv a1)) else none else none
theorem Az.run (a0:Int) (a1:Int):xfn Tryz.prog ⟨[],[],[]⟩ [] 60 Tryz.f63 [.int .i64 a0,.int .i64 a1] []=Az.K a0 a1 (fun r=>some (.int .i64 r,[])):=by kernel_rfl
def Az.o (a0:Int) (a1:Int):Option (Int):=Az.K a0 a1 some
def Az (a0:Int) (a1:Int):Int:=(Az.o a0 a1).getD default
theorem Az.nat {R:Type} (a0:Int) (a1:Int) (k:(Int)→Option R):Az.K a0 a1 k=(Az.K a0 a1 some).bind k:=by
 simp only [Az.K,bcond,Option.bind_some,Option.bind_none]
theorem Az.eq {a b:Int} (hb:0<b) (h1: -4611686018427387904≤a) (h2:a≤4611686018427387904):Az a b=a/b:=by
 have hb0:(b !=0)=true:=by simp; omega
 have hq:=Iy hb h1 h2
 simp only [Az,Az.o,Az.K,hb0,cond_true]
 have hd:a.tdiv b=a/b+if 0≤a∨b∣a then 0 else b.sign:=Int.tdiv_eq_ediv
 rw [Int.sign_eq_one_of_pos hb] at hd
 by_cases hm:a.tmod b=0
 ·have hv:b∣a:=Int.dvd_of_tmod_eq_zero hm
  simp only [hv,or_true,if_true,Int.add_zero] at hd
  simp only [hm,bne_self_eq_false,cond_false,Option.getD_some,hd]
  exact w64 (by omega) (by omega)
 ·have hv:¬b∣a:=fun h=>hm (Int.tmod_eq_zero_of_dvd h)
  have hm':(a.tmod b !=0)=true:=by simp [hm]
  simp only [hm',cond_true]
  by_cases ha:a<0
  ·simp only [hv,or_false,show ¬0≤a from by omega,if_false] at hd
   simp only [ha,decide_true,cond_true,Option.getD_some,hd]
   rw [w64 (n:=a/b+1) (by omega) (by omega),Int.add_sub_cancel,w64 (by omega) (by omega)]
  ·simp only [show 0≤a from by omega,true_or,if_true,Int.add_zero] at hd
   simp only [ha,decide_false,cond_false,Option.getD_some,hd]
   exact w64 (by omega) (by omega)
theorem Az.ok:SOK Tryz.prog 63 (Az.sp Az):=by
 refine Cu (E:=⟨[],[],[]⟩) (L:=[]) ⟨Ac,Ai,Ad,Ah⟩ 60 Tryz.func63 (by decide) rfl Bv fun vs bl v bl' h=> ?_
 unfold Az.sp at h
 split at h
 ·rename_i a0 a1
  simp only [zS,zP] at h
  obtain ⟨hp,rfl,rfl⟩:=h
  have hr:=Az.run a0 a1
  rw [Az.nat] at hr
  obtain ⟨r,h2⟩:=Option.isSome_iff_exists.1 (by simp [Az.o,Az.K,Ij,Hx,hp]:(Az.o a0 a1).isSome=true)
  have h3:Az a0 a1=r:=by unfold Az; rw [h2]; rfl
  have h4:Az.K a0 a1 some=some r:=h2
  rw [h4,Option.bind_some] at hr
  rw [h3]
  exact ⟨hr,by simp [okV,Nat.blt],clo_spec 8 _ (by kernel_rfl),Ay (by kernel_rfl)⟩
 ·cases h
section
variable {R:Type} (BV:Int→Int→(Int)) (a0:Int) (a1:Int)
def Bq.K (k:(Int)→Option R):Option R:=
 bif a1 !=0 then
 let t0:=BV (i64.wrap (0-a0)) a1
 k (i64.wrap (0-t0)) else none
theorem Bq.run:xfn Tryz.prog ⟨[(63,Az.sp BV)],[],[]⟩ [] 60 Tryz.f64 [.int .i64 a0,.int .i64 a1] []=Bq.K BV a0 a1 (fun r=>some (.int .i64 r,[])):=by kernel_rfl
def Bq.o:Option (Int):=Bq.K Az a0 a1 some
def Bq:Int:=(Bq.o a0 a1).getD default
theorem Bq.nat (k:(Int)→Option R):Bq.K BV a0 a1 k=(Bq.K BV a0 a1 some).bind k:=by
 simp only [Bq.K,bcond,Option.bind_some,Option.bind_none]
theorem Bq.eq {a b:Int} (hb:0<b) (h1: -4611686018427387904≤a) (h2:a≤4611686018427387904):Bq a b=cl a b:=by
 have hb0:(b !=0)=true:=by simp; omega
 have hq:=Iy (a:= -a) hb (by omega) (by omega)
 simp only [Bq,Bq.o,Bq.K,hb0,cond_true,Option.getD_some,Int.zero_sub]
 rw [w64 (n:= -a) (by omega) (by omega),Az.eq hb (by omega) (by omega),w64 (by omega) (by omega)]
 rfl
end
theorem Bq.ok:SOK Tryz.prog 64 (Bq.sp Bq):=by
 refine Cu (E:=⟨[(63,Az.sp Az)],[],[]⟩) (L:=[]) ⟨(Aa Az.ok Ac),Ai,Ad,Ah⟩ 60 Tryz.func64 (by decide) rfl Bv fun vs bl v bl' h=> ?_
 unfold Bq.sp at h
 split at h
 ·rename_i a0 a1
  simp only [zS,zP] at h
  obtain ⟨hp,rfl,rfl⟩:=h
  have hr:=Bq.run Az a0 a1
  rw [Bq.nat] at hr
  obtain ⟨r,h2⟩:=Option.isSome_iff_exists.1 (by simp [Bq.o,Bq.K,Ij,Hx,hp]:(Bq.o a0 a1).isSome=true)
  have h3:Bq a0 a1=r:=by unfold Bq; rw [h2]; rfl
  have h4:Bq.K Az a0 a1 some=some r:=h2
  rw [h4,Option.bind_some] at hr
  rw [h3]
  exact ⟨hr,by simp [okV,Nat.blt],clo_spec 8 _ (by kernel_rfl),Ay (by kernel_rfl)⟩
 ·cases h
section
variable {R:Type} (BS:Int→Int→(Int×Int×Int)) (BV:Int→Int→(Int)) (C9:Int→Int→(Int)) (AI:Int→Int→(Bool)) (A2:Int) (A3:Int) (A5:Int) (A4:Int)
def Bb.K (k:Int×Int×Int→R):R:=
 let t0:=AI A2 A3
 bif !t0 then k (0,0,1) else
 let t1:=AI A5 A4
 bif !t1 then k (0,0,1) else
 let t2:=BV (mn (mn (mn (mn (i64.wrap (A2*A5)) (i64.wrap (A2*A5))) (i64.wrap (A2*A4))) (i64.wrap (A3*A5))) (i64.wrap (A3*A4))) 16777216
 let t3:=C9 (mx (mx (mx (mx (i64.wrap (A2*A5)) (i64.wrap (A2*A5))) (i64.wrap (A2*A4))) (i64.wrap (A3*A5))) (i64.wrap (A3*A4))) 16777216
 let t4:=BS t2 t3
 k (t4.1,t4.2.1,t4.2.2)
theorem Bb.run:xfn Tryz.prog ⟨[(61,Fo.sp),(62,Ax.sp BS),(63,Az.sp BV),(64,Bq.sp C9),(21,Ab.sp AI)],[(82,Tryz.f82)],[]⟩ [] 60 Tryz.f47 [.agg ⟨[.int .i64 A2,.int .i64 A3]⟩,.agg ⟨[.int .i64 A5,.int .i64 A4]⟩] []=Bb.K BS BV C9 AI A2 A3 A5 A4 (fun r=>some (.tuple ⟨[.agg ⟨[.int .i64 r.1,.int .i64 r.2.1]⟩,.int .i64 r.2.2]⟩,[])):=by kernel_rfl
def Bb:Int×Int×Int:=Bb.K Ax Az Bq Ab A2 A3 A5 A4 id
theorem Bb.nat (k:Int×Int×Int→R):Bb.K BS BV C9 AI A2 A3 A5 A4 k=k (Bb.K BS BV C9 AI A2 A3 A5 A4 id):=by
 simp only [Bb.K,acond k,id_eq]
theorem Bb.eq (a b c d:Int):Bb a b c d=imul a b c d:=by
 simp only [Bb,Bb.K,id_eq,Ab.eq,imul]
 cases h1:V a b with
 |false=>simp
 | true=>cases h2:V c d with
  |false=>simp
  | true=>
   have:=Hf.1 h1
   have:=Hf.1 h2
   have e1:=IO (x:=a) (y:=c) (by omega) (by omega) (by omega) (by omega)
   have e2:=IO (x:=a) (y:=d) (by omega) (by omega) (by omega) (by omega)
   have e3:=IO (x:=b) (y:=c) (by omega) (by omega) (by omega) (by omega)
   have e4:=IO (x:=b) (y:=d) (by omega) (by omega) (by omega) (by omega)
   have w1:i64.wrap (a*c)=a*c:=w64 (by omega) (by omega)
   have w2:i64.wrap (a*d)=a*d:=w64 (by omega) (by omega)
   have w3:i64.wrap (b*c)=b*c:=w64 (by omega) (by omega)
   have w4:i64.wrap (b*d)=b*d:=w64 (by omega) (by omega)
   have m1:min (min (min (min (a*c) (a*c)) (a*d)) (b*c)) (b*d)=mn4 (a*c) (a*d) (b*c) (b*d):=by simp only [mn4]; omega
   have m2:max (max (max (max (a*c) (a*c)) (a*d)) (b*c)) (b*d)=mx4 (a*c) (a*d) (b*c) (b*d):=by simp only [mx4]; omega
   simp only [w1,w2,w3,w4,Su,Sq,zN,cond_false,Bool.and_self,cond_true,m1,m2]
   have hmn:mn4 (a*c) (a*d) (b*c) (b*d)≤mx4 (a*c) (a*d) (b*c) (b*d):=by simp only [mn4,mx4]; omega
   rw [Az.eq (by omega) (by simp only [mn4]; omega) (by simp only [mn4]; omega),Bq.eq (by omega) (by simp only [mx4]; omega) (by simp only [mx4]; omega),Ax.eq (K8 (by omega) hmn)]
end
theorem Bb.ok:SOK Tryz.prog 47 (Bb.sp Bb):=by
 refine Cu (E:=⟨[(61,Fo.sp),(62,Ax.sp Ax),(63,Az.sp Az),(64,Bq.sp Bq),(21,Ab.sp Ab)],[(82,Tryz.f82)],[]⟩) (L:=[]) ⟨(Aa Fo.ok (Aa Ax.ok (Aa Az.ok (Aa Bq.ok (Aa Ab.ok Ac))))),(Fl ⟨Tryz.func82,by decide,rfl⟩ Ai),Ad,Ah⟩ 60 Tryz.func47 (by decide) rfl Bv fun vs bl v bl' h=> ?_
 unfold Bb.sp at h
 split at h
 ·rename_i A2 A3 A5 A4
  simp only [zS,zP,true_and] at h
  obtain ⟨rfl,rfl⟩:=h
  refine ⟨?_,by simp [okV,Nat.blt],clo_spec 8 _ (by kernel_rfl),Ay (by kernel_rfl)⟩
  refine (Bb.run Ax Az Bq Ab A2 A3 A5 A4).trans ?_
  refine (Bb.nat Ax Az Bq Ab A2 A3 A5 A4 _).trans ?_
  kernel_rfl
 ·cases h
section
variable {R:Type} (BS:Int→Int→(Int×Int×Int)) (BV:Int→Int→(Int)) (C9:Int→Int→(Int)) (AI:Int→Int→(Bool)) (A2:Int) (A3:Int) (A5:Int) (A4:Int)
def Aw.K (k:Int×Int×Int→Option R):Option R:=
 let t0:=AI A2 A3
 bif !t0 then k (0,0,1) else
 let t1:=AI A5 A4
 bif !t1 then k (0,0,1) else bif decide (A5≤0) then bif decide (A4≥0) then k (0,0,10) else bif decide (A4<0) then bif i64.wrap (0-A4) !=0 then bif i64.wrap (0-A5) !=0 then bif i64.wrap (0-A4) !=0 then bif i64.wrap (0-A5) !=0 then
 let t2:=BV (i64.wrap (i64.wrap (0-A3)*16777216)) (i64.wrap (0-A4))
 let t3:=BV (i64.wrap (i64.wrap (0-A3)*16777216)) (i64.wrap (0-A5))
 let t4:=C9 (i64.wrap (i64.wrap (0-A2)*16777216)) (i64.wrap (0-A4))
 let t5:=C9 (i64.wrap (i64.wrap (0-A2)*16777216)) (i64.wrap (0-A5))
 let t6:=BS (mn (mn t2 t2) t3) (mx (mx t4 t4) t5)
 k (t6.1,t6.2.1,t6.2.2) else none else none else none else none else bif A5 !=0 then bif A4 !=0 then bif A5 !=0 then bif A4 !=0 then
 let t7:=BV (i64.wrap (A2*16777216)) A5
 let t8:=BV (i64.wrap (A2*16777216)) A4
 let t9:=C9 (i64.wrap (A3*16777216)) A5
 let t10:=C9 (i64.wrap (A3*16777216)) A4
 let t11:=BS (mn (mn t7 t7) t8) (mx (mx t9 t9) t10)
 k (t11.1,t11.2.1,t11.2.2) else none else none else none else none else bif decide (A4<0) then bif i64.wrap (0-A4) !=0 then bif i64.wrap (0-A5) !=0 then bif i64.wrap (0-A4) !=0 then bif i64.wrap (0-A5) !=0 then
 let t12:=BV (i64.wrap (i64.wrap (0-A3)*16777216)) (i64.wrap (0-A4))
 let t13:=BV (i64.wrap (i64.wrap (0-A3)*16777216)) (i64.wrap (0-A5))
 let t14:=C9 (i64.wrap (i64.wrap (0-A2)*16777216)) (i64.wrap (0-A4))
 let t15:=C9 (i64.wrap (i64.wrap (0-A2)*16777216)) (i64.wrap (0-A5))
 let t16:=BS (mn (mn t12 t12) t13) (mx (mx t14 t14) t15)
 k (t16.1,t16.2.1,t16.2.2) else none else none else none else none else bif A5 !=0 then bif A4 !=0 then bif A5 !=0 then bif A4 !=0 then
 let t17:=BV (i64.wrap (A2*16777216)) A5
 let t18:=BV (i64.wrap (A2*16777216)) A4
 let t19:=C9 (i64.wrap (A3*16777216)) A5
 let t20:=C9 (i64.wrap (A3*16777216)) A4
 let t21:=BS (mn (mn t17 t17) t18) (mx (mx t19 t19) t20)
 k (t21.1,t21.2.1,t21.2.2) else none else none else none else none
theorem Aw.run:xfn Tryz.prog ⟨[(61,Fo.sp),(62,Ax.sp BS),(63,Az.sp BV),(64,Bq.sp C9),(21,Ab.sp AI)],[(82,Tryz.f82)],[]⟩ [] 60 Tryz.f54 [.agg ⟨[.int .i64 A2,.int .i64 A3]⟩,.agg ⟨[.int .i64 A5,.int .i64 A4]⟩] []=Aw.K BS BV C9 AI A2 A3 A5 A4 (fun r=>some (.tuple ⟨[.agg ⟨[.int .i64 r.1,.int .i64 r.2.1]⟩,.int .i64 r.2.2]⟩,[])):=by kernel_rfl
def Aw.o:Option (Int×Int×Int):=Aw.K Ax Az Bq Ab A2 A3 A5 A4 some
def Aw:Int×Int×Int:=(Aw.o A2 A3 A5 A4).getD default
theorem Aw.nat (k:Int×Int×Int→Option R):Aw.K BS BV C9 AI A2 A3 A5 A4 k=(Aw.K BS BV C9 AI A2 A3 A5 A4 some).bind k:=by
 simp only [Aw.K,bcond,Option.bind_some,Option.bind_none]
end
theorem Aw.o_eq (a b c d:Int):Aw.o a b c d=some (idiv a b c d):=by
  simp only [Aw.o,Aw.K,Ab.eq,idiv]
  cases h1:V a b with
  |false=>simp
  | true=>cases h2:V c d with
    |false=>simp
    | true=>
      have:=Hf.1 h1
      have:=Hf.1 h2
      have w1:i64.wrap (0-a)= -a:=by rw [Int.zero_sub]; exact w64 (by omega) (by omega)
      have w2:i64.wrap (0-b)= -b:=by rw [Int.zero_sub]; exact w64 (by omega) (by omega)
      have w3:i64.wrap (0-c)= -c:=by rw [Int.zero_sub]; exact w64 (by omega) (by omega)
      have w4:i64.wrap (0-d)= -d:=by rw [Int.zero_sub]; exact w64 (by omega) (by omega)
      have w5:i64.wrap (a*16777216)=a*16777216:=w64 (by omega) (by omega)
      have w6:i64.wrap (b*16777216)=b*16777216:=w64 (by omega) (by omega)
      have w7:i64.wrap (-a*16777216)= -a*16777216:=w64 (by omega) (by omega)
      have w8:i64.wrap (-b*16777216)= -b*16777216:=w64 (by omega) (by omega)
      simp only [w1,w2,w3,w4,w5,w6,w7,w8,Su,Sq,zN,cond_false,cond_true,Bool.and_self]
      have pos:∀x y u v:Int,-1073741824≤x→x≤y→y≤1073741824→0<u→u≤v→v≤1073741824→Ax (min (min (Az (x*16777216) u) (Az (x*16777216) u)) (Az (x*16777216) v)) (max (max (Bq (y*16777216) u) (Bq (y*16777216) u)) (Bq (y*16777216) v))=pdiv x y u v:=fun x y u v hx hxy hy hu huv hv=>by
        have hv0:0<v:=by omega
        have f1:Az (x*16777216) u=x*16777216/u:=Az.eq hu (by omega) (by omega)
        have f2:Az (x*16777216) v=x*16777216/v:=Az.eq hv0 (by omega) (by omega)
        have f3:Bq (y*16777216) u=cl (y*16777216) u:=Bq.eq hu (by omega) (by omega)
        have f4:Bq (y*16777216) v=cl (y*16777216) v:=Bq.eq hv0 (by omega) (by omega)
        rw [f1,f2,f3,f4,Int.min_self,Int.max_self]
        have:=K8 (x:=x*16777216) (y:=y*16777216) hu (by omega)
        exact Ax.eq (by omega)
      by_cases h3:c≤0
      · by_cases h4:d≥0
        · simp [h3,h4]
        · have h5:d<0:=by omega
          have n1:((-d) !=0)=true:=by simp; omega
          have n2:((-c) !=0)=true:=by simp; omega
          have n3:¬(c≤0∧0≤d):=by omega
          rw [if_neg n3,if_pos h5]
          simp only [h3,h4,h5,n1,n2,decide_true,decide_false,cond_true,cond_false,pos (-b) (-a) (-d) (-c) (by omega) (by omega) (by omega) (by omega) (by omega) (by omega)]
      · have h5:¬d<0:=by omega
        have n1:(c !=0)=true:=by simp; omega
        have n2:(d !=0)=true:=by simp; omega
        have n3:¬(c≤0∧0≤d):=by omega
        rw [if_neg n3,if_neg h5]
        simp only [h3,h5,n1,n2,decide_true,decide_false,cond_true,cond_false,pos a b c d (by omega) (by omega) (by omega) (by omega) (by omega) (by omega)]
theorem Aw.total (a b c d:Int):(Aw.o a b c d).isSome=true:=by rw [Aw.o_eq]; rfl
theorem Aw.eq (a b c d:Int):Aw a b c d=idiv a b c d:=by rw [Aw,Aw.o_eq]; rfl
theorem Aw.ok:SOK Tryz.prog 54 (Aw.sp Aw):=by
 refine Cu (E:=⟨[(61,Fo.sp),(62,Ax.sp Ax),(63,Az.sp Az),(64,Bq.sp Bq),(21,Ab.sp Ab)],[(82,Tryz.f82)],[]⟩) (L:=[]) ⟨(Aa Fo.ok (Aa Ax.ok (Aa Az.ok (Aa Bq.ok (Aa Ab.ok Ac))))),(Fl ⟨Tryz.func82,by decide,rfl⟩ Ai),Ad,Ah⟩ 60 Tryz.func54 (by decide) rfl Bv fun vs bl v bl' h=> ?_
 unfold Aw.sp at h
 split at h
 ·rename_i A2 A3 A5 A4
  simp only [zS,zP] at h
  obtain ⟨hp,rfl,rfl⟩:=h
  have hr:=Aw.run Ax Az Bq Ab A2 A3 A5 A4
  rw [Aw.nat] at hr
  obtain ⟨r,h2⟩:=Option.isSome_iff_exists.1 (Aw.total A2 A3 A5 A4:(Aw.o A2 A3 A5 A4).isSome=true)
  have h3:Aw A2 A3 A5 A4=r:=by unfold Aw; rw [h2]; rfl
  have h4:Aw.K Ax Az Bq Ab A2 A3 A5 A4 some=some r:=h2
  rw [h4,Option.bind_some] at hr
  rw [h3]
  exact ⟨hr,by simp [okV,Nat.blt],clo_spec 8 _ (by kernel_rfl),Ay (by kernel_rfl)⟩
 ·cases h
section
variable {R:Type} (AP:Int→Int→Int→Int→(Int×Int×Int)) (AQ:Int→Int→Int→Int→(Int×Int×Int)) (AV:Int→Int→Int→Int→(Int×Int×Int)) (BO:Int→Int→Int→Int→(Int×Int×Int)) (BL:Int→Int→Int→Int→(Int×Int×Int)) (s0_0:Int) (AJ:Int) (AK:Int) (C6:Int) (C4:Int)
def Ao.K {R:Type} (AP:Int→Int→Int→Int→(Int×Int×Int)) (AQ:Int→Int→Int→Int→(Int×Int×Int)) (AV:Int→Int→Int→Int→(Int×Int×Int)) (BO:Int→Int→Int→Int→(Int×Int×Int)) (BL:Int→Int→Int→Int→(Int×Int×Int)) (s0_0:Int) (AJ:Int) (AK:Int) (C6:Int) (C4:Int) (k:Int×Int×Int→R):R:=
 bif s0_0 !=0 then k (AJ,AK,s0_0) else
 let t0:=BO AJ AK C6 C4
 let t1:=AP s0_0 t0.1 t0.2.1 t0.2.2
 k (t1.1,t1.2.1,t1.2.2)
theorem Ao.run:xfn Tryz.prog ⟨[(30,Aj.sp AP),(46,Au.sp AQ),(47,Bb.sp AV),(50,Br.sp BO),(54,Aw.sp BL)],[],[]⟩ [] 60 Tryz.f65 [.pointer (some ⟨0,0,none⟩),.func (.func 50) ⟨[]⟩ ⟨[]⟩,.agg ⟨[.int .i64 AJ,.int .i64 AK]⟩,.agg ⟨[.int .i64 C6,.int .i64 C4]⟩] [.cs [.int .i64 s0_0] 61]=Ao.K AP AQ AV BO BL s0_0 AJ AK C6 C4 (fun r=>some (.agg ⟨[.int .i64 r.1,.int .i64 r.2.1]⟩,[.cs [.int .i64 r.2.2] 61])):=by kernel_rfl
def Ao:Int×Int×Int:=Ao.K Aj Au Bb Br Aw s0_0 AJ AK C6 C4 id
theorem Ao.nat (k:Int×Int×Int→R):Ao.K AP AQ AV BO BL s0_0 AJ AK C6 C4 k=k (Ao.K AP AQ AV BO BL s0_0 AJ AK C6 C4 id):=by
 simp only [Ao.K,acond k,id_eq]
theorem Ao.eq (s a b c d:Int):Ao s a b c d=st s a b (iadd a b c d):=by
 simp only [Ao,Ao.K,id_eq,Br.eq,Aj.eq,st]
 by_cases hs:s=0
 ·subst hs; rfl
 ·simp only [Em hs,cond_true]
end
section
variable {R:Type} (AP:Int→Int→Int→Int→(Int×Int×Int)) (AQ:Int→Int→Int→Int→(Int×Int×Int)) (AV:Int→Int→Int→Int→(Int×Int×Int)) (BO:Int→Int→Int→Int→(Int×Int×Int)) (BL:Int→Int→Int→Int→(Int×Int×Int)) (s0_0:Int) (AJ:Int) (AK:Int) (C6:Int) (C4:Int)
def Al.K {R:Type} (AP:Int→Int→Int→Int→(Int×Int×Int)) (AQ:Int→Int→Int→Int→(Int×Int×Int)) (AV:Int→Int→Int→Int→(Int×Int×Int)) (BO:Int→Int→Int→Int→(Int×Int×Int)) (BL:Int→Int→Int→Int→(Int×Int×Int)) (s0_0:Int) (AJ:Int) (AK:Int) (C6:Int) (C4:Int) (k:Int×Int×Int→R):R:=
 bif s0_0 !=0 then k (AJ,AK,s0_0) else
 let t0:=AQ AJ AK C6 C4
 let t1:=AP s0_0 t0.1 t0.2.1 t0.2.2
 k (t1.1,t1.2.1,t1.2.2)
theorem Al.run:xfn Tryz.prog ⟨[(30,Aj.sp AP),(46,Au.sp AQ),(47,Bb.sp AV),(50,Br.sp BO),(54,Aw.sp BL)],[],[]⟩ [] 60 Tryz.f65 [.pointer (some ⟨0,0,none⟩),.func (.func 46) ⟨[]⟩ ⟨[]⟩,.agg ⟨[.int .i64 AJ,.int .i64 AK]⟩,.agg ⟨[.int .i64 C6,.int .i64 C4]⟩] [.cs [.int .i64 s0_0] 61]=Al.K AP AQ AV BO BL s0_0 AJ AK C6 C4 (fun r=>some (.agg ⟨[.int .i64 r.1,.int .i64 r.2.1]⟩,[.cs [.int .i64 r.2.2] 61])):=by kernel_rfl
def Al:Int×Int×Int:=Al.K Aj Au Bb Br Aw s0_0 AJ AK C6 C4 id
theorem Al.nat (k:Int×Int×Int→R):Al.K AP AQ AV BO BL s0_0 AJ AK C6 C4 k=k (Al.K AP AQ AV BO BL s0_0 AJ AK C6 C4 id):=by
 simp only [Al.K,acond k,id_eq]
theorem Al.eq (s a b c d:Int):Al s a b c d=st s a b (isub a b c d):=by
 simp only [Al,Al.K,id_eq,Au.eq,Aj.eq,st]
 by_cases hs:s=0
 ·subst hs; rfl
 ·simp only [Em hs,cond_true]
end
section
variable {R:Type} (AP:Int→Int→Int→Int→(Int×Int×Int)) (AQ:Int→Int→Int→Int→(Int×Int×Int)) (AV:Int→Int→Int→Int→(Int×Int×Int)) (BO:Int→Int→Int→Int→(Int×Int×Int)) (BL:Int→Int→Int→Int→(Int×Int×Int)) (s0_0:Int) (AJ:Int) (AK:Int) (C6:Int) (C4:Int)
def Am.K {R:Type} (AP:Int→Int→Int→Int→(Int×Int×Int)) (AQ:Int→Int→Int→Int→(Int×Int×Int)) (AV:Int→Int→Int→Int→(Int×Int×Int)) (BO:Int→Int→Int→Int→(Int×Int×Int)) (BL:Int→Int→Int→Int→(Int×Int×Int)) (s0_0:Int) (AJ:Int) (AK:Int) (C6:Int) (C4:Int) (k:Int×Int×Int→R):R:=
 bif s0_0 !=0 then k (AJ,AK,s0_0) else
 let t0:=AV AJ AK C6 C4
 let t1:=AP s0_0 t0.1 t0.2.1 t0.2.2
 k (t1.1,t1.2.1,t1.2.2)
theorem Am.run:xfn Tryz.prog ⟨[(30,Aj.sp AP),(46,Au.sp AQ),(47,Bb.sp AV),(50,Br.sp BO),(54,Aw.sp BL)],[],[]⟩ [] 60 Tryz.f65 [.pointer (some ⟨0,0,none⟩),.func (.func 47) ⟨[]⟩ ⟨[]⟩,.agg ⟨[.int .i64 AJ,.int .i64 AK]⟩,.agg ⟨[.int .i64 C6,.int .i64 C4]⟩] [.cs [.int .i64 s0_0] 61]=Am.K AP AQ AV BO BL s0_0 AJ AK C6 C4 (fun r=>some (.agg ⟨[.int .i64 r.1,.int .i64 r.2.1]⟩,[.cs [.int .i64 r.2.2] 61])):=by kernel_rfl
def Am:Int×Int×Int:=Am.K Aj Au Bb Br Aw s0_0 AJ AK C6 C4 id
theorem Am.nat (k:Int×Int×Int→R):Am.K AP AQ AV BO BL s0_0 AJ AK C6 C4 k=k (Am.K AP AQ AV BO BL s0_0 AJ AK C6 C4 id):=by
 simp only [Am.K,acond k,id_eq]
theorem Am.eq (s a b c d:Int):Am s a b c d=st s a b (imul a b c d):=by
 simp only [Am,Am.K,id_eq,Bb.eq,Aj.eq,st]
 by_cases hs:s=0
 ·subst hs; rfl
 ·simp only [Em hs,cond_true]
end
section
variable {R:Type} (AP:Int→Int→Int→Int→(Int×Int×Int)) (AQ:Int→Int→Int→Int→(Int×Int×Int)) (AV:Int→Int→Int→Int→(Int×Int×Int)) (BO:Int→Int→Int→Int→(Int×Int×Int)) (BL:Int→Int→Int→Int→(Int×Int×Int)) (s0_0:Int) (AJ:Int) (AK:Int) (C6:Int) (C4:Int)
def An.K {R:Type} (AP:Int→Int→Int→Int→(Int×Int×Int)) (AQ:Int→Int→Int→Int→(Int×Int×Int)) (AV:Int→Int→Int→Int→(Int×Int×Int)) (BO:Int→Int→Int→Int→(Int×Int×Int)) (BL:Int→Int→Int→Int→(Int×Int×Int)) (s0_0:Int) (AJ:Int) (AK:Int) (C6:Int) (C4:Int) (k:Int×Int×Int→R):R:=
 bif s0_0 !=0 then k (AJ,AK,s0_0) else
 let t0:=BL AJ AK C6 C4
 let t1:=AP s0_0 t0.1 t0.2.1 t0.2.2
 k (t1.1,t1.2.1,t1.2.2)
theorem An.run:xfn Tryz.prog ⟨[(30,Aj.sp AP),(46,Au.sp AQ),(47,Bb.sp AV),(50,Br.sp BO),(54,Aw.sp BL)],[],[]⟩ [] 60 Tryz.f65 [.pointer (some ⟨0,0,none⟩),.func (.func 54) ⟨[]⟩ ⟨[]⟩,.agg ⟨[.int .i64 AJ,.int .i64 AK]⟩,.agg ⟨[.int .i64 C6,.int .i64 C4]⟩] [.cs [.int .i64 s0_0] 61]=An.K AP AQ AV BO BL s0_0 AJ AK C6 C4 (fun r=>some (.agg ⟨[.int .i64 r.1,.int .i64 r.2.1]⟩,[.cs [.int .i64 r.2.2] 61])):=by kernel_rfl
def An:Int×Int×Int:=An.K Aj Au Bb Br Aw s0_0 AJ AK C6 C4 id
theorem An.nat (k:Int×Int×Int→R):An.K AP AQ AV BO BL s0_0 AJ AK C6 C4 k=k (An.K AP AQ AV BO BL s0_0 AJ AK C6 C4 id):=by
 simp only [An.K,acond k,id_eq]
theorem An.eq (s a b c d:Int):An s a b c d=st s a b (idiv a b c d):=by
 simp only [An,An.K,id_eq,Aw.eq,Aj.eq,st]
 by_cases hs:s=0
 ·subst hs; rfl
 ·simp only [Em hs,cond_true]
end
theorem Ev.ok:SOK Tryz.prog 65 (Ev.sp Ao Al Am An):=by
 refine Cu (E:=⟨[(30,Aj.sp Aj),(46,Au.sp Au),(47,Bb.sp Bb),(50,Br.sp Br),(54,Aw.sp Aw)],[],[]⟩) (L:=[]) ⟨(Aa Aj.ok (Aa Au.ok (Aa Bb.ok (Aa Br.ok (Aa Aw.ok Ac))))),Ai,Ad,Ah⟩ 60 Tryz.func65 (by decide) rfl Bv fun vs bl v bl' h=> ?_
 unfold Ev.sp at h
 split at h
 ·rename_i AJ AK C6 C4 s0_0
  simp only [zS,zP,true_and] at h
  obtain ⟨rfl,rfl⟩:=h
  refine ⟨?_,by simp [okV,Nat.blt],clo_spec 8 _ (by kernel_rfl),Ay (by kernel_rfl)⟩
  refine (Ao.run Aj Au Bb Br Aw s0_0 AJ AK C6 C4).trans ?_
  refine (Ao.nat Aj Au Bb Br Aw s0_0 AJ AK C6 C4 _).trans ?_
  kernel_rfl
 ·rename_i AJ AK C6 C4 s0_0
  simp only [zS,zP,true_and] at h
  obtain ⟨rfl,rfl⟩:=h
  refine ⟨?_,by simp [okV,Nat.blt],clo_spec 8 _ (by kernel_rfl),Ay (by kernel_rfl)⟩
  refine (Al.run Aj Au Bb Br Aw s0_0 AJ AK C6 C4).trans ?_
  refine (Al.nat Aj Au Bb Br Aw s0_0 AJ AK C6 C4 _).trans ?_
  kernel_rfl
 ·rename_i AJ AK C6 C4 s0_0
  simp only [zS,zP,true_and] at h
  obtain ⟨rfl,rfl⟩:=h
  refine ⟨?_,by simp [okV,Nat.blt],clo_spec 8 _ (by kernel_rfl),Ay (by kernel_rfl)⟩
  refine (Am.run Aj Au Bb Br Aw s0_0 AJ AK C6 C4).trans ?_
  refine (Am.nat Aj Au Bb Br Aw s0_0 AJ AK C6 C4 _).trans ?_
  kernel_rfl
 ·rename_i AJ AK C6 C4 s0_0
  simp only [zS,zP,true_and] at h
  obtain ⟨rfl,rfl⟩:=h
  refine ⟨?_,by simp [okV,Nat.blt],clo_spec 8 _ (by kernel_rfl),Ay (by kernel_rfl)⟩
  refine (An.run Aj Au Bb Br Aw s0_0 AJ AK C6 C4).trans ?_
  refine (An.nat Aj Au Bb Br Aw s0_0 AJ AK C6 C4 _).trans ?_
  kernel_rfl
 ·cases h
section
variable {R:Type} (BO:Int→Int→Int→Int→(Int×Int×Int)) (AU:Int→Int→Int→Int→Int→(Int×Int×Int)) (AR:Int→Int→Int→Int→Int→(Int×Int×Int)) (AS:Int→Int→Int→Int→Int→(Int×Int×Int)) (AT:Int→Int→Int→Int→Int→(Int×Int×Int)) (s0_0:Int) (A5:Int) (A4:Int) (AJ:Int) (AK:Int)
def Bj.K {R:Type} (BO:Int→Int→Int→Int→(Int×Int×Int)) (AU:Int→Int→Int→Int→Int→(Int×Int×Int)) (AR:Int→Int→Int→Int→Int→(Int×Int×Int)) (AS:Int→Int→Int→Int→Int→(Int×Int×Int)) (AT:Int→Int→Int→Int→Int→(Int×Int×Int)) (s0_0:Int) (A5:Int) (A4:Int) (AJ:Int) (AK:Int) (k:Int×Int×Int→R):R:=
 let t0:=AU s0_0 A5 A4 AJ AK
 k (t0.1,t0.2.1,t0.2.2)
theorem Bj.run:xfn Tryz.prog ⟨[(50,Br.sp BO),(65,Ev.sp AU AR AS AT)],[],[]⟩ [] 60 Tryz.f24 [.pointer (some ⟨0,0,none⟩),.agg ⟨[.int .i64 A5,.int .i64 A4]⟩,.agg ⟨[.int .i64 AJ,.int .i64 AK]⟩] [.cs [.int .i64 s0_0] 61]=Bj.K BO AU AR AS AT s0_0 A5 A4 AJ AK (fun r=>some (.agg ⟨[.int .i64 r.1,.int .i64 r.2.1]⟩,[.cs [.int .i64 r.2.2] 61])):=by kernel_rfl
def Bj:Int×Int×Int:=Bj.K Br Ao Al Am An s0_0 A5 A4 AJ AK id
theorem Bj.nat (k:Int×Int×Int→R):Bj.K BO AU AR AS AT s0_0 A5 A4 AJ AK k=k (Bj.K BO AU AR AS AT s0_0 A5 A4 AJ AK id):=by
 simp only [Bj.K,acond k,id_eq]
theorem Bj.eq (s a b c d:Int):Bj s a b c d=st s a b (iadd a b c d):=by
 simp only [Bj,Bj.K,id_eq,Ao.eq]
end
theorem Bj.ok:SOK Tryz.prog 24 (Bj.sp Bj):=by
 refine Cu (E:=⟨[(50,Br.sp Br),(65,Ev.sp Ao Al Am An)],[],[]⟩) (L:=[]) ⟨(Aa Br.ok (Aa Ev.ok Ac)),Ai,Ad,Ah⟩ 60 Tryz.func24 (by decide) rfl Bv fun vs bl v bl' h=> ?_
 unfold Bj.sp at h
 split at h
 ·rename_i A5 A4 AJ AK s0_0
  simp only [zS,zP,true_and] at h
  obtain ⟨rfl,rfl⟩:=h
  refine ⟨?_,by simp [okV,Nat.blt],clo_spec 8 _ (by kernel_rfl),Ay (by kernel_rfl)⟩
  refine (Bj.run Br Ao Al Am An s0_0 A5 A4 AJ AK).trans ?_
  refine (Bj.nat Br Ao Al Am An s0_0 A5 A4 AJ AK _).trans ?_
  kernel_rfl
 ·cases h
section
variable {R:Type} (AV:Int→Int→Int→Int→(Int×Int×Int)) (AU:Int→Int→Int→Int→Int→(Int×Int×Int)) (AR:Int→Int→Int→Int→Int→(Int×Int×Int)) (AS:Int→Int→Int→Int→Int→(Int×Int×Int)) (AT:Int→Int→Int→Int→Int→(Int×Int×Int)) (s0_0:Int) (A5:Int) (A4:Int) (AJ:Int) (AK:Int)
def Bz.K {R:Type} (AV:Int→Int→Int→Int→(Int×Int×Int)) (AU:Int→Int→Int→Int→Int→(Int×Int×Int)) (AR:Int→Int→Int→Int→Int→(Int×Int×Int)) (AS:Int→Int→Int→Int→Int→(Int×Int×Int)) (AT:Int→Int→Int→Int→Int→(Int×Int×Int)) (s0_0:Int) (A5:Int) (A4:Int) (AJ:Int) (AK:Int) (k:Int×Int×Int→R):R:=
 let t0:=AS s0_0 A5 A4 AJ AK
 k (t0.1,t0.2.1,t0.2.2)
theorem Bz.run:xfn Tryz.prog ⟨[(47,Bb.sp AV),(65,Ev.sp AU AR AS AT)],[],[]⟩ [] 60 Tryz.f78 [.pointer (some ⟨0,0,none⟩),.agg ⟨[.int .i64 A5,.int .i64 A4]⟩,.agg ⟨[.int .i64 AJ,.int .i64 AK]⟩] [.cs [.int .i64 s0_0] 61]=Bz.K AV AU AR AS AT s0_0 A5 A4 AJ AK (fun r=>some (.agg ⟨[.int .i64 r.1,.int .i64 r.2.1]⟩,[.cs [.int .i64 r.2.2] 61])):=by kernel_rfl
def Bz:Int×Int×Int:=Bz.K Bb Ao Al Am An s0_0 A5 A4 AJ AK id
theorem Bz.nat (k:Int×Int×Int→R):Bz.K AV AU AR AS AT s0_0 A5 A4 AJ AK k=k (Bz.K AV AU AR AS AT s0_0 A5 A4 AJ AK id):=by
 simp only [Bz.K,acond k,id_eq]
theorem Bz.eq (s a b c d:Int):Bz s a b c d=st s a b (imul a b c d):=by
 simp only [Bz,Bz.K,id_eq,Am.eq]
end
theorem Bz.ok:SOK Tryz.prog 78 (Bz.sp Bz):=by
 refine Cu (E:=⟨[(47,Bb.sp Bb),(65,Ev.sp Ao Al Am An)],[],[]⟩) (L:=[]) ⟨(Aa Bb.ok (Aa Ev.ok Ac)),Ai,Ad,Ah⟩ 60 Tryz.func78 (by decide) rfl Bv fun vs bl v bl' h=> ?_
 unfold Bz.sp at h
 split at h
 ·rename_i A5 A4 AJ AK s0_0
  simp only [zS,zP,true_and] at h
  obtain ⟨rfl,rfl⟩:=h
  refine ⟨?_,by simp [okV,Nat.blt],clo_spec 8 _ (by kernel_rfl),Ay (by kernel_rfl)⟩
  refine (Bz.run Bb Ao Al Am An s0_0 A5 A4 AJ AK).trans ?_
  refine (Bz.nat Bb Ao Al Am An s0_0 A5 A4 AJ AK _).trans ?_
  kernel_rfl
 ·cases h
section
variable {R:Type} (s0_0:Int) (A5:Int) (A4:Int)
def Cr.K (k:Int×Int×Int×Int→R):R:=
 bif s0_0 !=0 then k (0,0,s0_0,s0_0) else k (A5,A4,0,s0_0)
theorem Cr.run:xfn Tryz.prog ⟨[],[],[]⟩ [] 60 Tryz.f79 [.pointer (some ⟨0,0,none⟩),.agg ⟨[.int .i64 A5,.int .i64 A4]⟩] [.cs [.int .i64 s0_0] 61]=Cr.K s0_0 A5 A4 (fun r=>some (.tuple ⟨[.agg ⟨[.int .i64 r.1,.int .i64 r.2.1]⟩,.int .i64 r.2.2.1]⟩,[.cs [.int .i64 r.2.2.2] 61])):=by kernel_rfl
def Cr:Int×Int×Int×Int:=Cr.K s0_0 A5 A4 id
theorem Cr.nat (k:Int×Int×Int×Int→R):Cr.K s0_0 A5 A4 k=k (Cr.K s0_0 A5 A4 id):=by
 simp only [Cr.K,acond k,id_eq]
end
theorem Cr.ok:SOK Tryz.prog 79 (Cr.sp Cr):=by
 refine Cu (E:=⟨[],[],[]⟩) (L:=[]) ⟨Ac,Ai,Ad,Ah⟩ 60 Tryz.func79 (by decide) rfl Bv fun vs bl v bl' h=> ?_
 unfold Cr.sp at h
 split at h
 ·rename_i A5 A4 s0_0
  simp only [zS,zP,true_and] at h
  obtain ⟨rfl,rfl⟩:=h
  refine ⟨?_,by simp [okV,Nat.blt],clo_spec 8 _ (by kernel_rfl),Ay (by kernel_rfl)⟩
  refine (Cr.run s0_0 A5 A4).trans ?_
  refine (Cr.nat s0_0 A5 A4 _).trans ?_
  kernel_rfl
 ·cases h
section
variable {R:Type} (C3:Int→Int→Int→Int→Int→(Int×Int×Int)) (C7:Int→Int→Int→Int→Int→Int→(Bool)) (CU:Int→Int→Int→Int→Int→(Int×Int×Int)) (EW:Int→Int→Int→(Int×Int×Int×Int)) (A2:Int) (A3:Int) (A8:Int) (A7:Int) (A6:Int) (A9:Int) (A5:Int) (A4:Int) (AF:Int) (AE:Int) (AH:Int) (AG:Int)
def Dn.K (k:Int×Int×Int→R):R:=
 let t0:=C7 A2 A3 A8 A7 A6 A9
 bif !t0 then k (0,0,1) else
 let t1:=C7 A5 A4 AF AE AH AG
 bif !t1 then k (0,0,1) else
 let t2:=CU 0 A2 A3 A5 A4
 let t3:=CU t2.2.2 A8 A7 AF AE
 let t4:=CU t3.2.2 A6 A9 AH AG
 let t5:=C3 t4.2.2 t2.1 t2.2.1 t3.1 t3.2.1
 let t6:=C3 t5.2.2 t5.1 t5.2.1 t4.1 t4.2.1
 let t7:=EW t6.2.2 t6.1 t6.2.1
 k (t7.1,t7.2.1,t7.2.2.1)
theorem Dn.run:xfn Tryz.prog ⟨[(24,Bj.sp C3),(77,Bk.sp C7),(78,Bz.sp CU),(79,Cr.sp EW)],[],[]⟩ [] 60 Tryz.f38 [.agg ⟨[.int .i64 A2,.int .i64 A3,.int .i64 A8,.int .i64 A7,.int .i64 A6,.int .i64 A9]⟩,.agg ⟨[.int .i64 A5,.int .i64 A4,.int .i64 AF,.int .i64 AE,.int .i64 AH,.int .i64 AG]⟩] []=Dn.K C3 C7 CU EW A2 A3 A8 A7 A6 A9 A5 A4 AF AE AH AG (fun r=>some (.tuple ⟨[.agg ⟨[.int .i64 r.1,.int .i64 r.2.1]⟩,.int .i64 r.2.2]⟩,[])):=by kernel_rfl
def Dn:Int×Int×Int:=Dn.K Bj Bk Bz Cr A2 A3 A8 A7 A6 A9 A5 A4 AF AE AH AG id
theorem Dn.nat (k:Int×Int×Int→R):Dn.K C3 C7 CU EW A2 A3 A8 A7 A6 A9 A5 A4 AF AE AH AG k=k (Dn.K C3 C7 CU EW A2 A3 A8 A7 A6 A9 A5 A4 AF AE AH AG id):=by
 simp only [Dn.K,acond k,id_eq]
theorem Dn.eq (a0 a1 a2 a3 a4 a5 b0 b1 b2 b3 b4 b5:Int):Dn a0 a1 a2 a3 a4 a5 b0 b1 b2 b3 b4 b5=o3 (ddot ((a0,a1),(a2,a3),(a4,a5)) ((b0,b1),(b2,b3),(b4,b5))):=by
 simp only [Dn,Dn.K,id_eq,Bk.eq,Bz.eq,Bj.eq,Cr,Cr.K,id_eq,ddot,mulR,addR]
 cases hV0:VB ((a0,a1),(a2,a3),(a4,a5)) with
 | false=>
  simp only [hV0,st0,kr0,st70,Eg,Cm,Cn,o7,o3,o2,o11,Ej,kp0,cond_true,cond_false,zN,Bool.not_false,Bool.false_and,Bool.and_false,Bool.true_and,Bool.and_true,bne_self_eq_false,beq_self_eq_true,if_true,if_false]
 | true=>
  cases hV1:VB ((b0,b1),(b2,b3),(b4,b5)) with
  | false=>
   simp only [hV0,hV1,st0,kr0,st70,Eg,Cm,Cn,o7,o3,o2,o11,Ej,kp0,cond_true,cond_false,zN,Bool.not_false,Bool.false_and,Bool.and_false,Bool.true_and,Bool.and_true,bne_self_eq_false,beq_self_eq_true,if_true,if_false]
  | true=>
   rcases t3c (imul a0 a1 b0 b1) with ⟨x0,x1,h0⟩|⟨x0,x1,e0,n0,h0⟩
   ·simp only [hV0,hV1,h0,st0,kr0,st70,Eg,Cm,Cn,o7,o3,o2,o11,Ej,kp0,cond_true,cond_false,zN,Bool.not_false,Bool.false_and,Bool.and_false,Bool.true_and,Bool.and_true,bne_self_eq_false,beq_self_eq_true,if_true,if_false]
    rcases t3c (imul a2 a3 b2 b3) with ⟨y0,y1,h1⟩|⟨y0,y1,e1,n1,h1⟩
    ·simp only [h1,st0,kr0,st70,Eg,Cm,Cn,o7,o3,o2,o11,Ej,kp0,cond_true,cond_false,zN,Bool.not_false,Bool.false_and,Bool.and_false,Bool.true_and,Bool.and_true,bne_self_eq_false,beq_self_eq_true,if_true,if_false]
     rcases t3c (imul a4 a5 b4 b5) with ⟨z0,z1,h2⟩|⟨z0,z1,e2,n2,h2⟩
     ·simp only [h2,st0,kr0,st70,Eg,Cm,Cn,o7,o3,o2,o11,Ej,kp0,cond_true,cond_false,zN,Bool.not_false,Bool.false_and,Bool.and_false,Bool.true_and,Bool.and_true,bne_self_eq_false,beq_self_eq_true,if_true,if_false]
      rcases t3c (iadd x0 x1 y0 y1) with ⟨s0,s1,h3⟩|⟨s0,s1,e3,n3,h3⟩
      ·simp only [h3,st0,kr0,st70,Eg,Cm,Cn,o7,o3,o2,o11,Ej,kp0,cond_true,cond_false,zN,Bool.not_false,Bool.false_and,Bool.and_false,Bool.true_and,Bool.and_true,bne_self_eq_false,beq_self_eq_true,if_true,if_false]
       rcases t3c (iadd s0 s1 z0 z1) with ⟨t0,t1,h4⟩|⟨t0,t1,e4,n4,h4⟩
       ·simp only [h4,st0,kr0,st70,Eg,Cm,Cn,o7,o3,o2,o11,Ej,kp0,cond_true,cond_false,zN,Bool.not_false,Bool.false_and,Bool.and_false,Bool.true_and,Bool.and_true,bne_self_eq_false,beq_self_eq_true,if_true,if_false]
       ·simp only [h4,stE n4,krE n4,st7E n4,GX n4,Em n4,Fa n4,kpn _ n4,st0,kr0,st70,Eg,Cm,Cn,o7,o3,o2,o11,Ej,kp0,cond_true,cond_false,zN,Bool.not_false,Bool.false_and,Bool.and_false,Bool.true_and,Bool.and_true,bne_self_eq_false,beq_self_eq_true,if_true,if_false]
      ·simp only [h3,stE n3,krE n3,st7E n3,GX n3,Em n3,Fa n3,kpn _ n3,st0,kr0,st70,Eg,Cm,Cn,o7,o3,o2,o11,Ej,kp0,cond_true,cond_false,zN,Bool.not_false,Bool.false_and,Bool.and_false,Bool.true_and,Bool.and_true,bne_self_eq_false,beq_self_eq_true,if_true,if_false]
     ·simp only [h2,stE n2,krE n2,st7E n2,GX n2,Em n2,Fa n2,kpn _ n2,st0,kr0,st70,Eg,Cm,Cn,o7,o3,o2,o11,Ej,kp0,cond_true,cond_false,zN,Bool.not_false,Bool.false_and,Bool.and_false,Bool.true_and,Bool.and_true,bne_self_eq_false,beq_self_eq_true,if_true,if_false]
    ·simp only [h1,stE n1,krE n1,st7E n1,GX n1,Em n1,Fa n1,kpn _ n1,st0,kr0,st70,Eg,Cm,Cn,o7,o3,o2,o11,Ej,kp0,cond_true,cond_false,zN,Bool.not_false,Bool.false_and,Bool.and_false,Bool.true_and,Bool.and_true,bne_self_eq_false,beq_self_eq_true,if_true,if_false]
   ·simp only [hV0,hV1,h0,stE n0,krE n0,st7E n0,GX n0,Em n0,Fa n0,kpn _ n0,st0,kr0,st70,Eg,Cm,Cn,o7,o3,o2,o11,Ej,kp0,cond_true,cond_false,zN,Bool.not_false,Bool.false_and,Bool.and_false,Bool.true_and,Bool.and_true,bne_self_eq_false,beq_self_eq_true,if_true,if_false]
end
theorem Dn.ok:SOK Tryz.prog 38 (Dn.sp Dn):=by
 refine Cu (E:=⟨[(24,Bj.sp Bj),(77,Bk.sp Bk),(78,Bz.sp Bz),(79,Cr.sp Cr)],[],[]⟩) (L:=[]) ⟨(Aa Bj.ok (Aa Bk.ok (Aa Bz.ok (Aa Cr.ok Ac)))),Ai,Ad,Ah⟩ 60 Tryz.func38 (by decide) rfl Bv fun vs bl v bl' h=> ?_
 unfold Dn.sp at h
 split at h
 ·rename_i A2 A3 A8 A7 A6 A9 A5 A4 AF AE AH AG
  simp only [zS,zP,true_and] at h
  obtain ⟨rfl,rfl⟩:=h
  refine ⟨?_,by simp [okV,Nat.blt],clo_spec 8 _ (by kernel_rfl),Ay (by kernel_rfl)⟩
  refine (Dn.run Bj Bk Bz Cr A2 A3 A8 A7 A6 A9 A5 A4 AF AE AH AG).trans ?_
  refine (Dn.nat Bj Bk Bz Cr A2 A3 A8 A7 A6 A9 A5 A4 AF AE AH AG _).trans ?_
  kernel_rfl
 ·cases h
section
variable {R:Type} (AI:Int→Int→(Bool)) (A2:Int) (A3:Int)
def Dm.K (k:(Int)→R):R:=
 let t0:=AI A2 A3
 bif !t0 then k (0) else bif decide (A2>0) then k (1) else bif decide (A3<0) then k (-1) else k (0)
theorem Dm.run:xfn Tryz.prog ⟨[(21,Ab.sp AI)],[],[]⟩ [] 60 Tryz.f39 [.agg ⟨[.int .i64 A2,.int .i64 A3]⟩] []=Dm.K AI A2 A3 (fun r=>some (.int .i64 r,[])):=by kernel_rfl
def Dm:Int:=Dm.K Ab A2 A3 id
theorem Dm.nat (k:(Int)→R):Dm.K AI A2 A3 k=k (Dm.K AI A2 A3 id):=by
 simp only [Dm.K,acond k,id_eq]
theorem Dm.eq (a b:Int):Dm a b=isg a b:=by
 simp only [Dm,Dm.K,id_eq,Ab.eq,isg]
 cases V a b with
 |false=>rfl
 |true=>by_cases h1:0<a<;>by_cases h2:b<0<;>simp [h1,h2]
end
theorem Dm.ok:SOK Tryz.prog 39 (Dm.sp Dm):=by
 refine Cu (E:=⟨[(21,Ab.sp Ab)],[],[]⟩) (L:=[]) ⟨(Aa Ab.ok Ac),Ai,Ad,Ah⟩ 60 Tryz.func39 (by decide) rfl Bv fun vs bl v bl' h=> ?_
 unfold Dm.sp at h
 split at h
 ·rename_i A2 A3
  simp only [zS,zP,true_and] at h
  obtain ⟨rfl,rfl⟩:=h
  refine ⟨?_,by simp [okV,Nat.blt],clo_spec 8 _ (by kernel_rfl),Ay (by kernel_rfl)⟩
  refine (Dm.run Ab A2 A3).trans ?_
  refine (Dm.nat Ab A2 A3 _).trans ?_
  kernel_rfl
 ·cases h
section
variable {R:Type} (AI:Int→Int→(Bool)) (BS:Int→Int→(Int×Int×Int)) (BV:Int→Int→(Int)) (C9:Int→Int→(Int)) (A2:Int) (A3:Int)
def At.K (k:Int×Int×Int→R):R:=
 let t0:=AI A2 A3
 bif !t0 then k (0,0,1) else bif decide (A2≤0) then bif decide (A3≥0) then
 let t1:=BV 0 16777216
 let t2:=C9 (mx (mx (i64.wrap (A2*A2)) (i64.wrap (A2*A2))) (i64.wrap (A3*A3))) 16777216
 let t3:=BS t1 t2
 k (t3.1,t3.2.1,t3.2.2) else
 let t4:=BV (mn (mn (i64.wrap (A2*A2)) (i64.wrap (A2*A2))) (i64.wrap (A3*A3))) 16777216
 let t5:=C9 (mx (mx (i64.wrap (A2*A2)) (i64.wrap (A2*A2))) (i64.wrap (A3*A3))) 16777216
 let t6:=BS t4 t5
 k (t6.1,t6.2.1,t6.2.2) else
 let t7:=BV (mn (mn (i64.wrap (A2*A2)) (i64.wrap (A2*A2))) (i64.wrap (A3*A3))) 16777216
 let t8:=C9 (mx (mx (i64.wrap (A2*A2)) (i64.wrap (A2*A2))) (i64.wrap (A3*A3))) 16777216
 let t9:=BS t7 t8
 k (t9.1,t9.2.1,t9.2.2)
theorem At.run:xfn Tryz.prog ⟨[(21,Ab.sp AI),(61,Fo.sp),(62,Ax.sp BS),(63,Az.sp BV),(64,Bq.sp C9)],[],[]⟩ [] 60 Tryz.f23 [.agg ⟨[.int .i64 A2,.int .i64 A3]⟩] []=At.K AI BS BV C9 A2 A3 (fun r=>some (.tuple ⟨[.agg ⟨[.int .i64 r.1,.int .i64 r.2.1]⟩,.int .i64 r.2.2]⟩,[])):=by kernel_rfl
def At:Int×Int×Int:=At.K Ab Ax Az Bq A2 A3 id
theorem At.nat (k:Int×Int×Int→R):At.K AI BS BV C9 A2 A3 k=k (At.K AI BS BV C9 A2 A3 id):=by
 simp only [At.K,acond k,id_eq]
theorem At.eq (a b:Int):At a b=isq a b:=by
 simp only [At,At.K,id_eq,Ab.eq,isq]
 cases h1:V a b with
 |false=>simp
 | true=>
  have:=Hf.1 h1
  have e1:=IO (x:=a) (y:=a) (by omega) (by omega) (by omega) (by omega)
  have e4:=IO (x:=b) (y:=b) (by omega) (by omega) (by omega) (by omega)
  have s1:=HZ a
  have s2:=HZ b
  have w1:i64.wrap (a*a)=a*a:=w64 (by omega) (by omega)
  have w4:i64.wrap (b*b)=b*b:=w64 (by omega) (by omega)
  have m1:min (min (a*a) (a*a)) (b*b)=min (a*a) (b*b):=by omega
  have m2:max (max (a*a) (a*a)) (b*b)=max (a*a) (b*b):=by omega
  simp only [w1,w4,Su,Sq,zN,cond_false,cond_true,m1,m2]
  have r1:Az (min (a*a) (b*b)) 16777216=min (a*a) (b*b)/16777216:=Az.eq (by omega) (by omega) (by omega)
  have r2:Bq (max (a*a) (b*b)) 16777216=cl (max (a*a) (b*b)) 16777216:=Bq.eq (by omega) (by omega) (by omega)
  have r3:Az 0 16777216=0/16777216:=Az.eq (by omega) (by omega) (by omega)
  have hk:(0:Int)<16777216:=by omega
  rw [r1,r2,r3,Ax.eq (K8 hk (by omega)),Ax.eq (K8 hk (by omega))]
  by_cases h2:a≤0<;>by_cases h3:b≥0<;>simp [h2,h3]
end
theorem At.ok:SOK Tryz.prog 23 (At.sp At):=by
 refine Cu (E:=⟨[(21,Ab.sp Ab),(61,Fo.sp),(62,Ax.sp Ax),(63,Az.sp Az),(64,Bq.sp Bq)],[],[]⟩) (L:=[]) ⟨(Aa Ab.ok (Aa Fo.ok (Aa Ax.ok (Aa Az.ok (Aa Bq.ok Ac))))),Ai,Ad,Ah⟩ 60 Tryz.func23 (by decide) rfl Bv fun vs bl v bl' h=> ?_
 unfold At.sp at h
 split at h
 ·rename_i A2 A3
  simp only [zS,zP,true_and] at h
  obtain ⟨rfl,rfl⟩:=h
  refine ⟨?_,by simp [okV,Nat.blt],clo_spec 8 _ (by kernel_rfl),Ay (by kernel_rfl)⟩
  refine (At.run Ab Ax Az Bq A2 A3).trans ?_
  refine (At.nat Ab Ax Az Bq A2 A3 _).trans ?_
  kernel_rfl
 ·cases h
section
variable {R:Type} (AI:Int→Int→(Bool)) (BS:Int→Int→(Int×Int×Int)) (A2:Int) (A3:Int)
def Bp.K (k:Int×Int×Int→R):R:=
 let t0:=AI A2 A3
 bif !t0 then k (0,0,1) else bif decide (A2<0) then k (0,0,2) else bif decide (i64.wrap (root.rt 32 (i64.wrap (A3*16777216)) 0*root.rt 32 (i64.wrap (A3*16777216)) 0)<i64.wrap (A3*16777216)) then
 let t1:=BS (root.rt 32 (i64.wrap (A2*16777216)) 0) (i64.wrap (root.rt 32 (i64.wrap (A3*16777216)) 0+1))
 k (t1.1,t1.2.1,t1.2.2) else
 let t2:=BS (root.rt 32 (i64.wrap (A2*16777216)) 0) (root.rt 32 (i64.wrap (A3*16777216)) 0)
 k (t2.1,t2.2.1,t2.2.2)
theorem Bp.run:xfn Tryz.prog ⟨[(21,Ab.sp AI),(62,Ax.sp BS),(80,HH.sp)],[],[]⟩ [] 60 Tryz.f42 [.agg ⟨[.int .i64 A2,.int .i64 A3]⟩] []=Bp.K AI BS A2 A3 (fun r=>some (.tuple ⟨[.agg ⟨[.int .i64 r.1,.int .i64 r.2.1]⟩,.int .i64 r.2.2]⟩,[])):=by kernel_rfl
def Bp:Int×Int×Int:=Bp.K Ab Ax A2 A3 id
theorem Bp.nat (k:Int×Int×Int→R):Bp.K AI BS A2 A3 k=k (Bp.K AI BS A2 A3 id):=by
 simp only [Bp.K,acond k,id_eq]
end
theorem Mf:∀(k:Nat) (n r:Int),0≤n→n≤18014398509481984→0≤r→r+((2^k:Nat):Int)≤4294967296→root.rt k n r=rts k n r
 |0,n,r,_,_,_,_=>rfl
 | k +1,n,r,h0,h1,h2,h3=>by
  have e:((2^(k+1):Nat):Int)=((2^k:Nat):Int)+((2^k:Nat):Int):=by rw [Nat.pow_succ]; omega
  have e2:(2:Int)^k=((2^k:Nat):Int):=(Int.natCast_pow 2 k).symm
  have hp:0<((2^k:Nat):Int):=by have:=Nat.two_pow_pos k; omega
  rw [e] at h3
  have hq:=Iy (a:=n) (b:=r+((2^k:Nat):Int)) (by omega) (by omega) (by omega)
  simp only [root.rt,rts,JS,e2]
  rw [w64 (n:=r+((2^k:Nat):Int)) (by omega) (by omega),Int.tdiv_eq_ediv_of_nonneg h0,w64 (by omega) (by omega)]
  have hi:r+((2^k:Nat):Int)≤n/(r+((2^k:Nat):Int))↔(r+((2^k:Nat):Int))*(r+((2^k:Nat):Int))≤n:=RE (by omega)
  by_cases hc:(r+((2^k:Nat):Int))*(r+((2^k:Nat):Int))≤n
  ·rw [if_pos hc,if_pos (hi.2 hc)]
   exact Mf k n _ h0 h1 (by omega) (by omega)
  ·rw [if_neg hc,if_neg (fun h=>hc (hi.1 h))]
   exact Mf k n _ h0 h1 h2 (by omega)
theorem P5 {n:Int} (h0:0≤n) (h:n≤18014398509481984):root.rt 32 n 0=sqt n:=Mf 32 n 0 h0 h (by omega) (by decide)
theorem Bp.eq (a b:Int):Bp a b=isr a b:=by
 simp only [Bp,Bp.K,id_eq,Ab.eq,isr]
 cases hv:V a b with
 |false=>rfl
 | true=>
  have:=Hf.1 hv
  by_cases ha:a<0
  ·simp only [ha,decide_true,zN,cond_false,cond_true,if_true]
  ·have w1:i64.wrap (a*16777216)=a*16777216:=w64 (by omega) (by omega)
   have w2:i64.wrap (b*16777216)=b*16777216:=w64 (by omega) (by omega)
   have r1:=P5 (n:=a*16777216) (by omega) (by omega)
   have r2:=P5 (n:=b*16777216) (by omega) (by omega)
   have s2:=J0 (n:=b*16777216) (by omega) (by omega)
   have g:=Nr (a:=a) (b:=b) (by omega) (by omega) (by omega)
   have g2:=(Kj (n:=b*16777216) (by omega) (by omega)).2.2.2
   simp only [ha,decide_false,zN,cond_false,cond_true,if_false,w1,w2,r1,r2]
   have g3:=HZ (sqt (b*16777216))
   rw [w64 (n:=sqt (b*16777216)*sqt (b*16777216)) (by omega) (by omega)]
   by_cases hc:sqt (b*16777216)*sqt (b*16777216)<b*16777216
   ·have e:sqc (b*16777216)=sqt (b*16777216)+1:=by rw [sqc,if_pos hc]
    simp only [hc,decide_true,cond_true]
    rw [w64 (by omega) (by omega),←e,Ax.eq (by omega),QG (by omega) (by omega) (by omega)]
   ·have e:sqc (b*16777216)=sqt (b*16777216):=by rw [sqc,if_neg hc]
    simp only [hc,decide_false,cond_false]
    rw [←e,Ax.eq (by omega),QG (by omega) (by omega) (by omega)]
theorem Bp.ok:SOK Tryz.prog 42 (Bp.sp Bp):=by
 refine Cu (E:=⟨[(21,Ab.sp Ab),(62,Ax.sp Ax),(80,HH.sp)],[],[]⟩) (L:=[]) ⟨(Aa Ab.ok (Aa Ax.ok (Aa HH.ok Ac))),Ai,Ad,Ah⟩ 60 Tryz.func42 (by decide) rfl Bv fun vs bl v bl' h=> ?_
 unfold Bp.sp at h
 split at h
 ·rename_i A2 A3
  simp only [zS,zP,true_and] at h
  obtain ⟨rfl,rfl⟩:=h
  refine ⟨?_,by simp [okV,Nat.blt],clo_spec 8 _ (by kernel_rfl),Ay (by kernel_rfl)⟩
  refine (Bp.run Ab Ax A2 A3).trans ?_
  refine (Bp.nat Ab Ax A2 A3 _).trans ?_
  kernel_rfl
 ·cases h
section
variable {R:Type} (AI:Int→Int→(Bool)) (BS:Int→Int→(Int×Int×Int)) (A2:Int) (A3:Int)
def Df.K (k:Int×Int×Int→R):R:=
 let t0:=AI A2 A3
 bif !t0 then k (0,0,1) else
 let t1:=BS (i64.wrap (0-A3)) (i64.wrap (0-A2))
 k (t1.1,t1.2.1,t1.2.2)
theorem Df.run:xfn Tryz.prog ⟨[(21,Ab.sp AI),(62,Ax.sp BS)],[],[]⟩ [] 60 Tryz.f43 [.agg ⟨[.int .i64 A2,.int .i64 A3]⟩] []=Df.K AI BS A2 A3 (fun r=>some (.tuple ⟨[.agg ⟨[.int .i64 r.1,.int .i64 r.2.1]⟩,.int .i64 r.2.2]⟩,[])):=by kernel_rfl
def Df:Int×Int×Int:=Df.K Ab Ax A2 A3 id
theorem Df.nat (k:Int×Int×Int→R):Df.K AI BS A2 A3 k=k (Df.K AI BS A2 A3 id):=by
 simp only [Df.K,acond k,id_eq]
theorem Df.eq (a b:Int):Df a b=ineg a b:=by
 simp only [Df,Df.K,id_eq,Ab.eq,ineg]
 cases hv:V a b with
 |false=>rfl
 | true=>
  have:=Hf.1 hv
  rw [Int.zero_sub,Int.zero_sub,w64 (by omega) (by omega),w64 (by omega) (by omega),Ax.eq (by omega),QG (by omega) (by omega) (by omega)]
  rfl
end
theorem Df.ok:SOK Tryz.prog 43 (Df.sp Df):=by
 refine Cu (E:=⟨[(21,Ab.sp Ab),(62,Ax.sp Ax)],[],[]⟩) (L:=[]) ⟨(Aa Ab.ok (Aa Ax.ok Ac)),Ai,Ad,Ah⟩ 60 Tryz.func43 (by decide) rfl Bv fun vs bl v bl' h=> ?_
 unfold Df.sp at h
 split at h
 ·rename_i A2 A3
  simp only [zS,zP,true_and] at h
  obtain ⟨rfl,rfl⟩:=h
  refine ⟨?_,by simp [okV,Nat.blt],clo_spec 8 _ (by kernel_rfl),Ay (by kernel_rfl)⟩
  refine (Df.run Ab Ax A2 A3).trans ?_
  refine (Df.nat Ab Ax A2 A3 _).trans ?_
  kernel_rfl
 ·cases h
section
variable {R:Type} (BN:Int→Int→(Int×Int×Int)) (BT:Int→Int→(Int×Int×Int)) (CO:Int→Int→(Int×Int×Int)) (s0_0:Int) (AJ:Int) (AK:Int)
def Ak.K {R:Type} (BN:Int→Int→(Int×Int×Int)) (BT:Int→Int→(Int×Int×Int)) (CO:Int→Int→(Int×Int×Int)) (s0_0:Int) (AJ:Int) (AK:Int) (k:Int×Int×Int→R):R:=
 bif s0_0 !=0 then k (AJ,AK,s0_0) else
 let t0:=BN AJ AK
 k (t0.1,t0.2.1,t0.2.2)
theorem Ak.run:xfn Tryz.prog ⟨[(23,At.sp BN),(42,Bp.sp BT),(43,Df.sp CO)],[],[]⟩ [] 60 Tryz.f41 [.pointer (some ⟨0,0,none⟩),.func (.func 23) ⟨[]⟩ ⟨[]⟩,.agg ⟨[.int .i64 AJ,.int .i64 AK]⟩] [.cs [.int .i64 s0_0] 76]=Ak.K BN BT CO s0_0 AJ AK (fun r=>some (.agg ⟨[.int .i64 r.1,.int .i64 r.2.1]⟩,[.cs [.int .i64 r.2.2] 76])):=by kernel_rfl
def Ak:Int×Int×Int:=Ak.K At Bp Df s0_0 AJ AK id
theorem Ak.nat (k:Int×Int×Int→R):Ak.K BN BT CO s0_0 AJ AK k=k (Ak.K BN BT CO s0_0 AJ AK id):=by
 simp only [Ak.K,acond k,id_eq]
theorem Ak.eq (s a b:Int):Ak s a b=st s a b (isq a b):=by
 simp only [Ak,Ak.K,id_eq,At.eq,st]
end
section
variable {R:Type} (BN:Int→Int→(Int×Int×Int)) (BT:Int→Int→(Int×Int×Int)) (CO:Int→Int→(Int×Int×Int)) (s0_0:Int) (AJ:Int) (AK:Int)
def As.K {R:Type} (BN:Int→Int→(Int×Int×Int)) (BT:Int→Int→(Int×Int×Int)) (CO:Int→Int→(Int×Int×Int)) (s0_0:Int) (AJ:Int) (AK:Int) (k:Int×Int×Int→R):R:=
 bif s0_0 !=0 then k (AJ,AK,s0_0) else
 let t0:=BT AJ AK
 k (t0.1,t0.2.1,t0.2.2)
theorem As.run:xfn Tryz.prog ⟨[(23,At.sp BN),(42,Bp.sp BT),(43,Df.sp CO)],[],[]⟩ [] 60 Tryz.f41 [.pointer (some ⟨0,0,none⟩),.func (.func 42) ⟨[]⟩ ⟨[]⟩,.agg ⟨[.int .i64 AJ,.int .i64 AK]⟩] [.cs [.int .i64 s0_0] 76]=As.K BN BT CO s0_0 AJ AK (fun r=>some (.agg ⟨[.int .i64 r.1,.int .i64 r.2.1]⟩,[.cs [.int .i64 r.2.2] 76])):=by kernel_rfl
def As:Int×Int×Int:=As.K At Bp Df s0_0 AJ AK id
theorem As.nat (k:Int×Int×Int→R):As.K BN BT CO s0_0 AJ AK k=k (As.K BN BT CO s0_0 AJ AK id):=by
 simp only [As.K,acond k,id_eq]
theorem As.eq (s a b:Int):As s a b=st s a b (isr a b):=by
 simp only [As,As.K,id_eq,Bp.eq,st]
end
section
variable {R:Type} (BN:Int→Int→(Int×Int×Int)) (BT:Int→Int→(Int×Int×Int)) (CO:Int→Int→(Int×Int×Int)) (s0_0:Int) (AJ:Int) (AK:Int)
def Av.K {R:Type} (BN:Int→Int→(Int×Int×Int)) (BT:Int→Int→(Int×Int×Int)) (CO:Int→Int→(Int×Int×Int)) (s0_0:Int) (AJ:Int) (AK:Int) (k:Int×Int×Int→R):R:=
 bif s0_0 !=0 then k (AJ,AK,s0_0) else
 let t0:=CO AJ AK
 k (t0.1,t0.2.1,t0.2.2)
theorem Av.run:xfn Tryz.prog ⟨[(23,At.sp BN),(42,Bp.sp BT),(43,Df.sp CO)],[],[]⟩ [] 60 Tryz.f41 [.pointer (some ⟨0,0,none⟩),.func (.func 43) ⟨[]⟩ ⟨[]⟩,.agg ⟨[.int .i64 AJ,.int .i64 AK]⟩] [.cs [.int .i64 s0_0] 76]=Av.K BN BT CO s0_0 AJ AK (fun r=>some (.agg ⟨[.int .i64 r.1,.int .i64 r.2.1]⟩,[.cs [.int .i64 r.2.2] 76])):=by kernel_rfl
def Av:Int×Int×Int:=Av.K At Bp Df s0_0 AJ AK id
theorem Av.nat (k:Int×Int×Int→R):Av.K BN BT CO s0_0 AJ AK k=k (Av.K BN BT CO s0_0 AJ AK id):=by
 simp only [Av.K,acond k,id_eq]
theorem Av.eq (s a b:Int):Av s a b=st s a b (ineg a b):=by
 simp only [Av,Av.K,id_eq,Df.eq,st]
end
theorem Ff.ok:SOK Tryz.prog 41 (Ff.sp Ak As Av):=by
 refine Cu (E:=⟨[(23,At.sp At),(42,Bp.sp Bp),(43,Df.sp Df)],[],[]⟩) (L:=[]) ⟨(Aa At.ok (Aa Bp.ok (Aa Df.ok Ac))),Ai,Ad,Ah⟩ 60 Tryz.func41 (by decide) rfl Bv fun vs bl v bl' h=> ?_
 unfold Ff.sp at h
 split at h
 ·rename_i AJ AK s0_0
  simp only [zS,zP,true_and] at h
  obtain ⟨rfl,rfl⟩:=h
  refine ⟨?_,by simp [okV,Nat.blt],clo_spec 8 _ (by kernel_rfl),Ay (by kernel_rfl)⟩
  refine (Ak.run At Bp Df s0_0 AJ AK).trans ?_
  refine (Ak.nat At Bp Df s0_0 AJ AK _).trans ?_
  kernel_rfl
 ·rename_i AJ AK s0_0
  simp only [zS,zP,true_and] at h
  obtain ⟨rfl,rfl⟩:=h
  refine ⟨?_,by simp [okV,Nat.blt],clo_spec 8 _ (by kernel_rfl),Ay (by kernel_rfl)⟩
  refine (As.run At Bp Df s0_0 AJ AK).trans ?_
  refine (As.nat At Bp Df s0_0 AJ AK _).trans ?_
  kernel_rfl
 ·rename_i AJ AK s0_0
  simp only [zS,zP,true_and] at h
  obtain ⟨rfl,rfl⟩:=h
  refine ⟨?_,by simp [okV,Nat.blt],clo_spec 8 _ (by kernel_rfl),Ay (by kernel_rfl)⟩
  refine (Av.run At Bp Df s0_0 AJ AK).trans ?_
  refine (Av.nat At Bp Df s0_0 AJ AK _).trans ?_
  kernel_rfl
 ·cases h
section
variable {R:Type} (AQ:Int→Int→Int→Int→(Int×Int×Int)) (AV:Int→Int→Int→Int→(Int×Int×Int)) (BO:Int→Int→Int→Int→(Int×Int×Int)) (BL:Int→Int→Int→Int→(Int×Int×Int)) (s0_0:Int) (AJ:Int) (AK:Int) (C6:Int) (C4:Int)
def Bi.K {R:Type} (AQ:Int→Int→Int→Int→(Int×Int×Int)) (AV:Int→Int→Int→Int→(Int×Int×Int)) (BO:Int→Int→Int→Int→(Int×Int×Int)) (BL:Int→Int→Int→Int→(Int×Int×Int)) (s0_0:Int) (AJ:Int) (AK:Int) (C6:Int) (C4:Int) (k:Int×Int×Int→R):R:=
 bif s0_0 !=0 then k (AJ,AK,s0_0) else
 let t0:=BO AJ AK C6 C4
 k (t0.1,t0.2.1,t0.2.2)
theorem Bi.run:xfn Tryz.prog ⟨[(46,Au.sp AQ),(47,Bb.sp AV),(50,Br.sp BO),(54,Aw.sp BL)],[],[]⟩ [] 60 Tryz.f45 [.pointer (some ⟨0,0,none⟩),.func (.func 50) ⟨[]⟩ ⟨[]⟩,.agg ⟨[.int .i64 AJ,.int .i64 AK]⟩,.agg ⟨[.int .i64 C6,.int .i64 C4]⟩] [.cs [.int .i64 s0_0] 76]=Bi.K AQ AV BO BL s0_0 AJ AK C6 C4 (fun r=>some (.agg ⟨[.int .i64 r.1,.int .i64 r.2.1]⟩,[.cs [.int .i64 r.2.2] 76])):=by kernel_rfl
def Bi:Int×Int×Int:=Bi.K Au Bb Br Aw s0_0 AJ AK C6 C4 id
theorem Bi.nat (k:Int×Int×Int→R):Bi.K AQ AV BO BL s0_0 AJ AK C6 C4 k=k (Bi.K AQ AV BO BL s0_0 AJ AK C6 C4 id):=by
 simp only [Bi.K,acond k,id_eq]
end
section
variable {R:Type} (AQ:Int→Int→Int→Int→(Int×Int×Int)) (AV:Int→Int→Int→Int→(Int×Int×Int)) (BO:Int→Int→Int→Int→(Int×Int×Int)) (BL:Int→Int→Int→Int→(Int×Int×Int)) (s0_0:Int) (AJ:Int) (AK:Int) (C6:Int) (C4:Int)
def Aq.K {R:Type} (AQ:Int→Int→Int→Int→(Int×Int×Int)) (AV:Int→Int→Int→Int→(Int×Int×Int)) (BO:Int→Int→Int→Int→(Int×Int×Int)) (BL:Int→Int→Int→Int→(Int×Int×Int)) (s0_0:Int) (AJ:Int) (AK:Int) (C6:Int) (C4:Int) (k:Int×Int×Int→R):R:=
 bif s0_0 !=0 then k (AJ,AK,s0_0) else
 let t0:=AQ AJ AK C6 C4
 k (t0.1,t0.2.1,t0.2.2)
theorem Aq.run:xfn Tryz.prog ⟨[(46,Au.sp AQ),(47,Bb.sp AV),(50,Br.sp BO),(54,Aw.sp BL)],[],[]⟩ [] 60 Tryz.f45 [.pointer (some ⟨0,0,none⟩),.func (.func 46) ⟨[]⟩ ⟨[]⟩,.agg ⟨[.int .i64 AJ,.int .i64 AK]⟩,.agg ⟨[.int .i64 C6,.int .i64 C4]⟩] [.cs [.int .i64 s0_0] 76]=Aq.K AQ AV BO BL s0_0 AJ AK C6 C4 (fun r=>some (.agg ⟨[.int .i64 r.1,.int .i64 r.2.1]⟩,[.cs [.int .i64 r.2.2] 76])):=by kernel_rfl
def Aq:Int×Int×Int:=Aq.K Au Bb Br Aw s0_0 AJ AK C6 C4 id
theorem Aq.nat (k:Int×Int×Int→R):Aq.K AQ AV BO BL s0_0 AJ AK C6 C4 k=k (Aq.K AQ AV BO BL s0_0 AJ AK C6 C4 id):=by
 simp only [Aq.K,acond k,id_eq]
theorem Aq.eq (s a b c d:Int):Aq s a b c d=st s a b (isub a b c d):=by
 simp only [Aq,Aq.K,id_eq,Au.eq,st]
end
section
variable {R:Type} (AQ:Int→Int→Int→Int→(Int×Int×Int)) (AV:Int→Int→Int→Int→(Int×Int×Int)) (BO:Int→Int→Int→Int→(Int×Int×Int)) (BL:Int→Int→Int→Int→(Int×Int×Int)) (s0_0:Int) (AJ:Int) (AK:Int) (C6:Int) (C4:Int)
def Ar.K {R:Type} (AQ:Int→Int→Int→Int→(Int×Int×Int)) (AV:Int→Int→Int→Int→(Int×Int×Int)) (BO:Int→Int→Int→Int→(Int×Int×Int)) (BL:Int→Int→Int→Int→(Int×Int×Int)) (s0_0:Int) (AJ:Int) (AK:Int) (C6:Int) (C4:Int) (k:Int×Int×Int→R):R:=
 bif s0_0 !=0 then k (AJ,AK,s0_0) else
 let t0:=AV AJ AK C6 C4
 k (t0.1,t0.2.1,t0.2.2)
theorem Ar.run:xfn Tryz.prog ⟨[(46,Au.sp AQ),(47,Bb.sp AV),(50,Br.sp BO),(54,Aw.sp BL)],[],[]⟩ [] 60 Tryz.f45 [.pointer (some ⟨0,0,none⟩),.func (.func 47) ⟨[]⟩ ⟨[]⟩,.agg ⟨[.int .i64 AJ,.int .i64 AK]⟩,.agg ⟨[.int .i64 C6,.int .i64 C4]⟩] [.cs [.int .i64 s0_0] 76]=Ar.K AQ AV BO BL s0_0 AJ AK C6 C4 (fun r=>some (.agg ⟨[.int .i64 r.1,.int .i64 r.2.1]⟩,[.cs [.int .i64 r.2.2] 76])):=by kernel_rfl
def Ar:Int×Int×Int:=Ar.K Au Bb Br Aw s0_0 AJ AK C6 C4 id
theorem Ar.nat (k:Int×Int×Int→R):Ar.K AQ AV BO BL s0_0 AJ AK C6 C4 k=k (Ar.K AQ AV BO BL s0_0 AJ AK C6 C4 id):=by
 simp only [Ar.K,acond k,id_eq]
theorem Ar.eq (s a b c d:Int):Ar s a b c d=st s a b (imul a b c d):=by
 simp only [Ar,Ar.K,id_eq,Bb.eq,st]
end
section
variable {R:Type} (AQ:Int→Int→Int→Int→(Int×Int×Int)) (AV:Int→Int→Int→Int→(Int×Int×Int)) (BO:Int→Int→Int→Int→(Int×Int×Int)) (BL:Int→Int→Int→Int→(Int×Int×Int)) (s0_0:Int) (AJ:Int) (AK:Int) (C6:Int) (C4:Int)
def Bh.K {R:Type} (AQ:Int→Int→Int→Int→(Int×Int×Int)) (AV:Int→Int→Int→Int→(Int×Int×Int)) (BO:Int→Int→Int→Int→(Int×Int×Int)) (BL:Int→Int→Int→Int→(Int×Int×Int)) (s0_0:Int) (AJ:Int) (AK:Int) (C6:Int) (C4:Int) (k:Int×Int×Int→R):R:=
 bif s0_0 !=0 then k (AJ,AK,s0_0) else
 let t0:=BL AJ AK C6 C4
 k (t0.1,t0.2.1,t0.2.2)
theorem Bh.run:xfn Tryz.prog ⟨[(46,Au.sp AQ),(47,Bb.sp AV),(50,Br.sp BO),(54,Aw.sp BL)],[],[]⟩ [] 60 Tryz.f45 [.pointer (some ⟨0,0,none⟩),.func (.func 54) ⟨[]⟩ ⟨[]⟩,.agg ⟨[.int .i64 AJ,.int .i64 AK]⟩,.agg ⟨[.int .i64 C6,.int .i64 C4]⟩] [.cs [.int .i64 s0_0] 76]=Bh.K AQ AV BO BL s0_0 AJ AK C6 C4 (fun r=>some (.agg ⟨[.int .i64 r.1,.int .i64 r.2.1]⟩,[.cs [.int .i64 r.2.2] 76])):=by kernel_rfl
def Bh:Int×Int×Int:=Bh.K Au Bb Br Aw s0_0 AJ AK C6 C4 id
theorem Bh.nat (k:Int×Int×Int→R):Bh.K AQ AV BO BL s0_0 AJ AK C6 C4 k=k (Bh.K AQ AV BO BL s0_0 AJ AK C6 C4 id):=by
 simp only [Bh.K,acond k,id_eq]
end
theorem Fe.ok:SOK Tryz.prog 45 (Fe.sp Bi Aq Ar Bh):=by
 refine Cu (E:=⟨[(46,Au.sp Au),(47,Bb.sp Bb),(50,Br.sp Br),(54,Aw.sp Aw)],[],[]⟩) (L:=[]) ⟨(Aa Au.ok (Aa Bb.ok (Aa Br.ok (Aa Aw.ok Ac)))),Ai,Ad,Ah⟩ 60 Tryz.func45 (by decide) rfl Bv fun vs bl v bl' h=> ?_
 unfold Fe.sp at h
 split at h
 ·rename_i AJ AK C6 C4 s0_0
  simp only [zS,zP,true_and] at h
  obtain ⟨rfl,rfl⟩:=h
  refine ⟨?_,by simp [okV,Nat.blt],clo_spec 8 _ (by kernel_rfl),Ay (by kernel_rfl)⟩
  refine (Bi.run Au Bb Br Aw s0_0 AJ AK C6 C4).trans ?_
  refine (Bi.nat Au Bb Br Aw s0_0 AJ AK C6 C4 _).trans ?_
  kernel_rfl
 ·rename_i AJ AK C6 C4 s0_0
  simp only [zS,zP,true_and] at h
  obtain ⟨rfl,rfl⟩:=h
  refine ⟨?_,by simp [okV,Nat.blt],clo_spec 8 _ (by kernel_rfl),Ay (by kernel_rfl)⟩
  refine (Aq.run Au Bb Br Aw s0_0 AJ AK C6 C4).trans ?_
  refine (Aq.nat Au Bb Br Aw s0_0 AJ AK C6 C4 _).trans ?_
  kernel_rfl
 ·rename_i AJ AK C6 C4 s0_0
  simp only [zS,zP,true_and] at h
  obtain ⟨rfl,rfl⟩:=h
  refine ⟨?_,by simp [okV,Nat.blt],clo_spec 8 _ (by kernel_rfl),Ay (by kernel_rfl)⟩
  refine (Ar.run Au Bb Br Aw s0_0 AJ AK C6 C4).trans ?_
  refine (Ar.nat Au Bb Br Aw s0_0 AJ AK C6 C4 _).trans ?_
  kernel_rfl
 ·rename_i AJ AK C6 C4 s0_0
  simp only [zS,zP,true_and] at h
  obtain ⟨rfl,rfl⟩:=h
  refine ⟨?_,by simp [okV,Nat.blt],clo_spec 8 _ (by kernel_rfl),Ay (by kernel_rfl)⟩
  refine (Bh.run Au Bb Br Aw s0_0 AJ AK C6 C4).trans ?_
  refine (Bh.nat Au Bb Br Aw s0_0 AJ AK C6 C4 _).trans ?_
  kernel_rfl
 ·cases h
end Go.Proofs.YtphlckkbihmlnaaGreatDoor.G
end
