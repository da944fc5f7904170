/- A part of what the law's proof leans on. PACKED BY pack.py of this repo. -/
import Derived.Test.YtpejalpgficopaaGreatDoorL14
set_option linter.unusedVariables false
set_option linter.unusedSimpArgs false
set_option linter.defProp false
set_option linter.unusedSectionVars false
section
namespace Go.Proofs.YtpejalpgficopaaGreatDoor.G
set_option maxRecDepth 100000
open Go Go.Proofs Go.RowKit RX
section
variable {R:Type} (A2:Int) (A3:Int)
def interval_Valid.K (k:(Bool)→R):R:=
 bif decide (A2≤A3) then bif decide (A2≥ -1073741824) then k (decide (A3≤1073741824)) else k (false) else k (false)
theorem interval_Valid.run:xfn Tryz.prog ⟨[],[],[]⟩ [] 60 Tryz.f65 [.agg ⟨[.int .i64 A2,.int .i64 A3]⟩] []=interval_Valid.K A2 A3 (fun r=>some (.bool r,[])):=by kernel_rfl
def interval_Valid:Bool:=interval_Valid.K A2 A3 id
theorem interval_Valid.nat (k:(Bool)→R):interval_Valid.K A2 A3 k=k (interval_Valid.K A2 A3 id):=by
 simp only [interval_Valid.K,acond k,id_eq]
theorem interval_Valid.eq (a b:Int):interval_Valid a b=V a b:=by
 simp only [interval_Valid,interval_Valid.K,id_eq,V]
 by_cases h1:a≤b<;>by_cases h2:a≥ -1073741824<;>by_cases h3:b≤1073741824<;>simp [h1,h2,h3]<;>omega
end
theorem interval_Valid.ok:SOK Tryz.prog 65 (interval_Valid.sp interval_Valid):=by
 refine sok_of (E:=⟨[],[],[]⟩) (L:=[]) ⟨specs_nil,inl_nil,mixed_ok,lps_nil⟩ 60 Tryz.func65 (by decide) rfl no_loops fun vs bl v bl' h=> ?_
 unfold interval_Valid.sp at h
 split at h
 ·rename_i A2 A3
  simp only [Option.some.injEq,Prod.mk.injEq,true_and] at h
  obtain ⟨rfl,rfl⟩:=h
  refine ⟨?_,by simp [okV,Nat.blt],clo_spec 8 _ (by kernel_rfl),told_blk (by kernel_rfl)⟩
  refine (interval_Valid.run A2 A3).trans ?_
  refine (interval_Valid.nat A2 A3 _).trans ?_
  kernel_rfl
 ·cases h
section
variable {R:Type} (a0:Int) (a1:Int)
def interval_made.K (k:Int×Int×Int→R):R:=
 bif decide (a0< -1073741824) then k (0,0,3) else bif decide (a1>1073741824) then k (0,0,3) else k (a0,a1,0)
theorem interval_made.run:xfn Tryz.prog ⟨[],[],[]⟩ [] 60 Tryz.f118 [.int .i64 a0,.int .i64 a1] []=interval_made.K a0 a1 (fun r=>some (.tuple ⟨[.agg ⟨[.int .i64 r.1,.int .i64 r.2.1]⟩,.int .i64 r.2.2]⟩,[])):=by kernel_rfl
def interval_made:Int×Int×Int:=interval_made.K a0 a1 id
theorem interval_made.nat (k:Int×Int×Int→R):interval_made.K a0 a1 k=k (interval_made.K a0 a1 id):=by
 simp only [interval_made.K,acond k,id_eq]
theorem interval_made.eq {a b:Int} (h:a≤b):interval_made a b=chk a b:=by
 simp only [interval_made,interval_made.K,id_eq,chk]
 by_cases h1:a< -1073741824
 ·rw [V_not.2 (by omega)]; simp [h1]
 ·by_cases h2:b>1073741824
  ·rw [V_not.2 (by omega)]; simp [h1,h2]
  ·rw [V_iff.2 ⟨by omega,h,by omega⟩]; simp [h1,h2]
end
theorem interval_made.ok:SOK Tryz.prog 118 (interval_made.sp interval_made):=by
 refine sok_of (E:=⟨[],[],[]⟩) (L:=[]) ⟨specs_nil,inl_nil,mixed_ok,lps_nil⟩ 60 Tryz.func118 (by decide) rfl no_loops fun vs bl v bl' h=> ?_
 unfold interval_made.sp at h
 split at h
 ·rename_i a0 a1
  simp only [Option.some.injEq,Prod.mk.injEq,true_and] at h
  obtain ⟨rfl,rfl⟩:=h
  refine ⟨?_,by simp [okV,Nat.blt],clo_spec 8 _ (by kernel_rfl),told_blk (by kernel_rfl)⟩
  refine (interval_made.run a0 a1).trans ?_
  refine (interval_made.nat a0 a1 _).trans ?_
  kernel_rfl
 ·cases h
def interval_floor.K {R:Type} (a0:Int) (a1:Int) (k:(Int)→Option R):Option R:=
 bif a1 !=0 then bif a1 !=0 then bif a0.tmod a1 !=0 then bif decide (a0<0) then k (IntKind.i64.wrap (IntKind.i64.wrap (a0.tdiv a1)-1)) else k (IntKind.i64.wrap (a0.tdiv a1)) else k (IntKind.i64.wrap (a0.tdiv a1)) else none else none
theorem interval_floor.run (a0:Int) (a1:Int):xfn Tryz.prog ⟨[],[],[]⟩ [] 60 Tryz.f119 [.int .i64 a0,.int .i64 a1] []=interval_floor.K a0 a1 (fun r=>some (.int .i64 r,[])):=by kernel_rfl
def interval_floor.o (a0:Int) (a1:Int):Option (Int):=interval_floor.K a0 a1 some
def interval_floor (a0:Int) (a1:Int):Int:=(interval_floor.o a0 a1).getD default
theorem interval_floor.nat {R:Type} (a0:Int) (a1:Int) (k:(Int)→Option R):interval_floor.K a0 a1 k=(interval_floor.K a0 a1 some).bind k:=by
 simp only [interval_floor.K,bcond,Option.bind_some,Option.bind_none]
theorem interval_floor.eq {a b:Int} (hb:0<b) (h1: -4611686018427387904≤a) (h2:a≤4611686018427387904):interval_floor a b=a/b:=by
 have hb0:(b !=0)=true:=by simp; omega
 have hq:=tdiv_bnd hb h1 h2
 simp only [interval_floor,interval_floor.o,interval_floor.K,hb0,cond_true]
 have hd:a.tdiv b=a/b+if 0≤a∨b∣a then 0 else b.sign:=Int.tdiv_eq_ediv
 rw [Int.sign_eq_one_of_pos hb] at hd
 by_cases hm:a.tmod b=0
 ·have hv:b∣a:=Int.dvd_of_tmod_eq_zero hm
  simp only [hv,or_true,if_true,Int.add_zero] at hd
  simp only [hm,bne_self_eq_false,cond_false,Option.getD_some,hd]
  exact w64 (by omega) (by omega)
 ·have hv:¬b∣a:=fun h=>hm (Int.tmod_eq_zero_of_dvd h)
  have hm':(a.tmod b !=0)=true:=by simp [hm]
  simp only [hm',cond_true]
  by_cases ha:a<0
  ·simp only [hv,or_false,show ¬0≤a from by omega,if_false] at hd
   simp only [ha,decide_true,cond_true,Option.getD_some,hd]
   rw [w64 (n:=a/b+1) (by omega) (by omega),Int.add_sub_cancel,w64 (by omega) (by omega)]
  ·simp only [show 0≤a from by omega,true_or,if_true,Int.add_zero] at hd
   simp only [ha,decide_false,cond_false,Option.getD_some,hd]
   exact w64 (by omega) (by omega)
theorem interval_floor.ok:SOK Tryz.prog 119 (interval_floor.sp interval_floor):=by
 refine sok_of (E:=⟨[],[],[]⟩) (L:=[]) ⟨specs_nil,inl_nil,mixed_ok,lps_nil⟩ 60 Tryz.func119 (by decide) rfl no_loops fun vs bl v bl' h=> ?_
 unfold interval_floor.sp at h
 split at h
 ·rename_i a0 a1
  simp only [Option.some.injEq,Prod.mk.injEq] at h
  obtain ⟨hp,rfl,rfl⟩:=h
  have hr:=interval_floor.run a0 a1
  rw [interval_floor.nat] at hr
  obtain ⟨r,h2⟩:=Option.isSome_iff_exists.1 (by simp [interval_floor.o,interval_floor.K,isSome_cond,bool_cond_true,hp]:(interval_floor.o a0 a1).isSome=true)
  have h3:interval_floor a0 a1=r:=by unfold interval_floor; rw [h2]; rfl
  have h4:interval_floor.K a0 a1 some=some r:=h2
  rw [h4,Option.bind_some] at hr
  rw [h3]
  exact ⟨hr,by simp [okV,Nat.blt],clo_spec 8 _ (by kernel_rfl),told_blk (by kernel_rfl)⟩
 ·cases h
section
variable {R:Type} (BL:Int→Int→(Int)) (a0:Int) (a1:Int)
def interval_ceil.K (k:(Int)→Option R):Option R:=
 bif a1 !=0 then
 let t0:=BL (IntKind.i64.wrap (0-a0)) a1
 k (IntKind.i64.wrap (0-t0)) else none
theorem interval_ceil.run:xfn Tryz.prog ⟨[(119,interval_floor.sp BL)],[],[]⟩ [] 60 Tryz.f120 [.int .i64 a0,.int .i64 a1] []=interval_ceil.K BL a0 a1 (fun r=>some (.int .i64 r,[])):=by kernel_rfl
def interval_ceil.o:Option (Int):=interval_ceil.K interval_floor a0 a1 some
def interval_ceil:Int:=(interval_ceil.o a0 a1).getD default
theorem interval_ceil.nat (k:(Int)→Option R):interval_ceil.K BL a0 a1 k=(interval_ceil.K BL a0 a1 some).bind k:=by
 simp only [interval_ceil.K,bcond,Option.bind_some,Option.bind_none]
theorem interval_ceil.eq {a b:Int} (hb:0<b) (h1: -4611686018427387904≤a) (h2:a≤4611686018427387904):interval_ceil a b=cl a b:=by
 have hb0:(b !=0)=true:=by simp; omega
 have hq:=tdiv_bnd (a:= -a) hb (by omega) (by omega)
 simp only [interval_ceil,interval_ceil.o,interval_ceil.K,hb0,cond_true,Option.getD_some,Int.zero_sub]
 rw [w64 (n:= -a) (by omega) (by omega),interval_floor.eq hb (by omega) (by omega),w64 (by omega) (by omega)]
 rfl
end
theorem interval_ceil.ok:SOK Tryz.prog 120 (interval_ceil.sp interval_ceil):=by
 refine sok_of (E:=⟨[(119,interval_floor.sp interval_floor)],[],[]⟩) (L:=[]) ⟨(specs_cons interval_floor.ok specs_nil),inl_nil,mixed_ok,lps_nil⟩ 60 Tryz.func120 (by decide) rfl no_loops fun vs bl v bl' h=> ?_
 unfold interval_ceil.sp at h
 split at h
 ·rename_i a0 a1
  simp only [Option.some.injEq,Prod.mk.injEq] at h
  obtain ⟨hp,rfl,rfl⟩:=h
  have hr:=interval_ceil.run interval_floor a0 a1
  rw [interval_ceil.nat] at hr
  obtain ⟨r,h2⟩:=Option.isSome_iff_exists.1 (by simp [interval_ceil.o,interval_ceil.K,isSome_cond,bool_cond_true,hp]:(interval_ceil.o a0 a1).isSome=true)
  have h3:interval_ceil a0 a1=r:=by unfold interval_ceil; rw [h2]; rfl
  have h4:interval_ceil.K interval_floor a0 a1 some=some r:=h2
  rw [h4,Option.bind_some] at hr
  rw [h3]
  exact ⟨hr,by simp [okV,Nat.blt],clo_spec 8 _ (by kernel_rfl),told_blk (by kernel_rfl)⟩
 ·cases h
section
variable {R:Type} (AR:Int→Int→(Bool)) (BK:Int→Int→(Int×Int×Int)) (BL:Int→Int→(Int)) (C7:Int→Int→(Int)) (A2:Int) (A3:Int)
def interval_Square.K (k:Int×Int×Int→R):R:=
 let t0:=AR A2 A3
 bif !t0 then k (0,0,1) else bif decide (A2≤0) then bif decide (A3≥0) then
 let t1:=BL 0 16777216
 let t2:=C7 (mx (mx (IntKind.i64.wrap (A2*A2)) (IntKind.i64.wrap (A2*A2))) (IntKind.i64.wrap (A3*A3))) 16777216
 let t3:=BK t1 t2
 k (t3.1,t3.2.1,t3.2.2) else
 let t4:=BL (mn (mn (IntKind.i64.wrap (A2*A2)) (IntKind.i64.wrap (A2*A2))) (IntKind.i64.wrap (A3*A3))) 16777216
 let t5:=C7 (mx (mx (IntKind.i64.wrap (A2*A2)) (IntKind.i64.wrap (A2*A2))) (IntKind.i64.wrap (A3*A3))) 16777216
 let t6:=BK t4 t5
 k (t6.1,t6.2.1,t6.2.2) else
 let t7:=BL (mn (mn (IntKind.i64.wrap (A2*A2)) (IntKind.i64.wrap (A2*A2))) (IntKind.i64.wrap (A3*A3))) 16777216
 let t8:=C7 (mx (mx (IntKind.i64.wrap (A2*A2)) (IntKind.i64.wrap (A2*A2))) (IntKind.i64.wrap (A3*A3))) 16777216
 let t9:=BK t7 t8
 k (t9.1,t9.2.1,t9.2.2)
theorem interval_Square.run:xfn Tryz.prog ⟨[(65,interval_Valid.sp AR),(117,interval_extremes.sp),(118,interval_made.sp BK),(119,interval_floor.sp BL),(120,interval_ceil.sp C7)],[],[]⟩ [] 60 Tryz.f67 [.agg ⟨[.int .i64 A2,.int .i64 A3]⟩] []=interval_Square.K AR BK BL C7 A2 A3 (fun r=>some (.tuple ⟨[.agg ⟨[.int .i64 r.1,.int .i64 r.2.1]⟩,.int .i64 r.2.2]⟩,[])):=by kernel_rfl
def interval_Square:Int×Int×Int:=interval_Square.K interval_Valid interval_made interval_floor interval_ceil A2 A3 id
theorem interval_Square.nat (k:Int×Int×Int→R):interval_Square.K AR BK BL C7 A2 A3 k=k (interval_Square.K AR BK BL C7 A2 A3 id):=by
 simp only [interval_Square.K,acond k,id_eq]
theorem interval_Square.eq (a b:Int):interval_Square a b=isq a b:=by
 simp only [interval_Square,interval_Square.K,id_eq,interval_Valid.eq,isq]
 cases h1:V a b with
 |false=>simp
 | true=>
  have:=V_iff.1 h1
  have e1:=mul_bnd30 (x:=a) (y:=a) (by omega) (by omega) (by omega) (by omega)
  have e4:=mul_bnd30 (x:=b) (y:=b) (by omega) (by omega) (by omega) (by omega)
  have s1:=sq_nonneg a
  have s2:=sq_nonneg b
  have w1:IntKind.i64.wrap (a*a)=a*a:=w64 (by omega) (by omega)
  have w4:IntKind.i64.wrap (b*b)=b*b:=w64 (by omega) (by omega)
  have m1:min (min (a*a) (a*a)) (b*b)=min (a*a) (b*b):=by omega
  have m2:max (max (a*a) (a*a)) (b*b)=max (a*a) (b*b):=by omega
  simp only [w1,w4,mn_eq,mx_eq,Bool.not_true,cond_false,cond_true,m1,m2]
  have r1:interval_floor (min (a*a) (b*b)) 16777216=min (a*a) (b*b)/16777216:=interval_floor.eq (by omega) (by omega) (by omega)
  have r2:interval_ceil (max (a*a) (b*b)) 16777216=cl (max (a*a) (b*b)) 16777216:=interval_ceil.eq (by omega) (by omega) (by omega)
  have r3:interval_floor 0 16777216=0/16777216:=interval_floor.eq (by omega) (by omega) (by omega)
  have hk:(0:Int)<16777216:=by omega
  rw [r1,r2,r3,interval_made.eq (fl_le_cl' hk (by omega)),interval_made.eq (fl_le_cl' hk (by omega))]
  by_cases h2:a≤0<;>by_cases h3:b≥0<;>simp [h2,h3]
end
theorem interval_Square.ok:SOK Tryz.prog 67 (interval_Square.sp interval_Square):=by
 refine sok_of (E:=⟨[(65,interval_Valid.sp interval_Valid),(117,interval_extremes.sp),(118,interval_made.sp interval_made),(119,interval_floor.sp interval_floor),(120,interval_ceil.sp interval_ceil)],[],[]⟩) (L:=[]) ⟨(specs_cons interval_Valid.ok (specs_cons interval_extremes.ok (specs_cons interval_made.ok (specs_cons interval_floor.ok (specs_cons interval_ceil.ok specs_nil))))),inl_nil,mixed_ok,lps_nil⟩ 60 Tryz.func67 (by decide) rfl no_loops fun vs bl v bl' h=> ?_
 unfold interval_Square.sp at h
 split at h
 ·rename_i A2 A3
  simp only [Option.some.injEq,Prod.mk.injEq,true_and] at h
  obtain ⟨rfl,rfl⟩:=h
  refine ⟨?_,by simp [okV,Nat.blt],clo_spec 8 _ (by kernel_rfl),told_blk (by kernel_rfl)⟩
  refine (interval_Square.run interval_Valid interval_made interval_floor interval_ceil A2 A3).trans ?_
  refine (interval_Square.nat interval_Valid interval_made interval_floor interval_ceil A2 A3 _).trans ?_
  kernel_rfl
 ·cases h
section
variable {R:Type} (AQ:Int→Int→Int→Int→(Int×Int×Int)) (C8:Int→Int→(Int×Int×Int)) (s0_0:Int) (BF:Int) (BE:Int)
def direction_calc_one_interval_Square.K (k:Int×Int×Int→R):R:=
 bif s0_0 !=0 then k (BF,BE,s0_0) else
 let t0:=C8 BF BE
 let t1:=AQ s0_0 t0.1 t0.2.1 t0.2.2
 k (t1.1,t1.2.1,t1.2.2)
theorem direction_calc_one_interval_Square.run:xfn Tryz.prog ⟨[(62,direction_calc_keep.sp AQ),(67,interval_Square.sp C8)],[],[]⟩ [] 60 Tryz.f66 [.pointer (some ⟨0,0,none⟩),.func (.func 67) ⟨[]⟩ ⟨[]⟩,.agg ⟨[.int .i64 BF,.int .i64 BE]⟩] [.cs [.int .i64 s0_0] 98]=direction_calc_one_interval_Square.K AQ C8 s0_0 BF BE (fun r=>some (.agg ⟨[.int .i64 r.1,.int .i64 r.2.1]⟩,[.cs [.int .i64 r.2.2] 98])):=by kernel_rfl
def direction_calc_one_interval_Square:Int×Int×Int:=direction_calc_one_interval_Square.K direction_calc_keep interval_Square s0_0 BF BE id
theorem direction_calc_one_interval_Square.nat (k:Int×Int×Int→R):direction_calc_one_interval_Square.K AQ C8 s0_0 BF BE k=k (direction_calc_one_interval_Square.K AQ C8 s0_0 BF BE id):=by
 simp only [direction_calc_one_interval_Square.K,acond k,id_eq]
theorem direction_calc_one_interval_Square.eq (s a b:Int):direction_calc_one_interval_Square s a b=st s a b (isq a b):=by
 simp only [direction_calc_one_interval_Square,direction_calc_one_interval_Square.K,id_eq,interval_Square.eq,direction_calc_keep.eq,st]
 by_cases hs:s=0
 ·subst hs; rfl
 ·simp only [bne_of hs,cond_true]
end
theorem direction_calc_one.ok:SOK Tryz.prog 66 (direction_calc_one.sp direction_calc_one_interval_Square):=by
 refine sok_of (E:=⟨[(62,direction_calc_keep.sp direction_calc_keep),(67,interval_Square.sp interval_Square)],[],[]⟩) (L:=[]) ⟨(specs_cons direction_calc_keep.ok (specs_cons interval_Square.ok specs_nil)),inl_nil,mixed_ok,lps_nil⟩ 60 Tryz.func66 (by decide) rfl no_loops fun vs bl v bl' h=> ?_
 unfold direction_calc_one.sp at h
 split at h
 ·rename_i BF BE s0_0
  simp only [Option.some.injEq,Prod.mk.injEq,true_and] at h
  obtain ⟨rfl,rfl⟩:=h
  refine ⟨?_,by simp [okV,Nat.blt],clo_spec 8 _ (by kernel_rfl),told_blk (by kernel_rfl)⟩
  refine (direction_calc_one_interval_Square.run direction_calc_keep interval_Square s0_0 BF BE).trans ?_
  refine (direction_calc_one_interval_Square.nat direction_calc_keep interval_Square s0_0 BF BE _).trans ?_
  kernel_rfl
 ·cases h
section
variable {R:Type} (BK:Int→Int→(Int×Int×Int)) (AR:Int→Int→(Bool)) (A2:Int) (A3:Int) (A5:Int) (A4:Int)
def interval_Add.K (k:Int×Int×Int→R):R:=
 let t0:=AR A2 A3
 bif !t0 then k (0,0,1) else
 let t1:=AR A5 A4
 bif !t1 then k (0,0,1) else
 let t2:=BK (IntKind.i64.wrap (A2+A5)) (IntKind.i64.wrap (A3+A4))
 k (t2.1,t2.2.1,t2.2.2)
theorem interval_Add.run:xfn Tryz.prog ⟨[(118,interval_made.sp BK),(65,interval_Valid.sp AR)],[(129,Tryz.f129)],[]⟩ [] 60 Tryz.f122 [.agg ⟨[.int .i64 A2,.int .i64 A3]⟩,.agg ⟨[.int .i64 A5,.int .i64 A4]⟩] []=interval_Add.K BK AR A2 A3 A5 A4 (fun r=>some (.tuple ⟨[.agg ⟨[.int .i64 r.1,.int .i64 r.2.1]⟩,.int .i64 r.2.2]⟩,[])):=by kernel_rfl
def interval_Add:Int×Int×Int:=interval_Add.K interval_made interval_Valid A2 A3 A5 A4 id
theorem interval_Add.nat (k:Int×Int×Int→R):interval_Add.K BK AR A2 A3 A5 A4 k=k (interval_Add.K BK AR A2 A3 A5 A4 id):=by
 simp only [interval_Add.K,acond k,id_eq]
theorem interval_Add.eq (a b c d:Int):interval_Add a b c d=iadd a b c d:=by
 simp only [interval_Add,interval_Add.K,id_eq,interval_Valid.eq,iadd]
 cases h1:V a b with
 |false=>simp
 | true=>cases h2:V c d with
  |false=>simp
  | true=>
   have:=V_iff.1 h1
   have:=V_iff.1 h2
   rw [w64 (by omega) (by omega),w64 (by omega) (by omega),interval_made.eq (by omega)]
   simp
end
theorem interval_Add.ok:SOK Tryz.prog 122 (interval_Add.sp interval_Add):=by
 refine sok_of (E:=⟨[(118,interval_made.sp interval_made),(65,interval_Valid.sp interval_Valid)],[(129,Tryz.f129)],[]⟩) (L:=[]) ⟨(specs_cons interval_made.ok (specs_cons interval_Valid.ok specs_nil)),(inl_cons ⟨Tryz.func129,by decide,rfl⟩ inl_nil),mixed_ok,lps_nil⟩ 60 Tryz.func122 (by decide) rfl no_loops fun vs bl v bl' h=> ?_
 unfold interval_Add.sp at h
 split at h
 ·rename_i A2 A3 A5 A4
  simp only [Option.some.injEq,Prod.mk.injEq,true_and] at h
  obtain ⟨rfl,rfl⟩:=h
  refine ⟨?_,by simp [okV,Nat.blt],clo_spec 8 _ (by kernel_rfl),told_blk (by kernel_rfl)⟩
  refine (interval_Add.run interval_made interval_Valid A2 A3 A5 A4).trans ?_
  refine (interval_Add.nat interval_made interval_Valid A2 A3 A5 A4 _).trans ?_
  kernel_rfl
 ·cases h
section
variable {R:Type} (BK:Int→Int→(Int×Int×Int)) (BL:Int→Int→(Int)) (C7:Int→Int→(Int)) (AR:Int→Int→(Bool)) (A2:Int) (A3:Int) (A5:Int) (A4:Int)
def interval_Div.K (k:Int×Int×Int→Option R):Option R:=
 let t0:=AR A2 A3
 bif !t0 then k (0,0,1) else
 let t1:=AR A5 A4
 bif !t1 then k (0,0,1) else bif decide (A5≤0) then bif decide (A4≥0) then k (0,0,10) else bif decide (A4<0) then bif IntKind.i64.wrap (0-A4) !=0 then bif IntKind.i64.wrap (0-A5) !=0 then bif IntKind.i64.wrap (0-A4) !=0 then bif IntKind.i64.wrap (0-A5) !=0 then
 let t2:=BL (IntKind.i64.wrap (IntKind.i64.wrap (0-A3)*16777216)) (IntKind.i64.wrap (0-A4))
 let t3:=BL (IntKind.i64.wrap (IntKind.i64.wrap (0-A3)*16777216)) (IntKind.i64.wrap (0-A5))
 let t4:=C7 (IntKind.i64.wrap (IntKind.i64.wrap (0-A2)*16777216)) (IntKind.i64.wrap (0-A4))
 let t5:=C7 (IntKind.i64.wrap (IntKind.i64.wrap (0-A2)*16777216)) (IntKind.i64.wrap (0-A5))
 let t6:=BK (mn (mn t2 t2) t3) (mx (mx t4 t4) t5)
 k (t6.1,t6.2.1,t6.2.2) else none else none else none else none else bif A5 !=0 then bif A4 !=0 then bif A5 !=0 then bif A4 !=0 then
 let t7:=BL (IntKind.i64.wrap (A2*16777216)) A5
 let t8:=BL (IntKind.i64.wrap (A2*16777216)) A4
 let t9:=C7 (IntKind.i64.wrap (A3*16777216)) A5
 let t10:=C7 (IntKind.i64.wrap (A3*16777216)) A4
 let t11:=BK (mn (mn t7 t7) t8) (mx (mx t9 t9) t10)
 k (t11.1,t11.2.1,t11.2.2) else none else none else none else none else bif decide (A4<0) then bif IntKind.i64.wrap (0-A4) !=0 then bif IntKind.i64.wrap (0-A5) !=0 then bif IntKind.i64.wrap (0-A4) !=0 then bif IntKind.i64.wrap (0-A5) !=0 then
 let t12:=BL (IntKind.i64.wrap (IntKind.i64.wrap (0-A3)*16777216)) (IntKind.i64.wrap (0-A4))
 let t13:=BL (IntKind.i64.wrap (IntKind.i64.wrap (0-A3)*16777216)) (IntKind.i64.wrap (0-A5))
 let t14:=C7 (IntKind.i64.wrap (IntKind.i64.wrap (0-A2)*16777216)) (IntKind.i64.wrap (0-A4))
 let t15:=C7 (IntKind.i64.wrap (IntKind.i64.wrap (0-A2)*16777216)) (IntKind.i64.wrap (0-A5))
 let t16:=BK (mn (mn t12 t12) t13) (mx (mx t14 t14) t15)
 k (t16.1,t16.2.1,t16.2.2) else none else none else none else none else bif A5 !=0 then bif A4 !=0 then bif A5 !=0 then bif A4 !=0 then
 let t17:=BL (IntKind.i64.wrap (A2*16777216)) A5
 let t18:=BL (IntKind.i64.wrap (A2*16777216)) A4
 let t19:=C7 (IntKind.i64.wrap (A3*16777216)) A5
 let t20:=C7 (IntKind.i64.wrap (A3*16777216)) A4
 let t21:=BK (mn (mn t17 t17) t18) (mx (mx t19 t19) t20)
 k (t21.1,t21.2.1,t21.2.2) else none else none else none else none
theorem interval_Div.run:xfn Tryz.prog ⟨[(117,interval_extremes.sp),(118,interval_made.sp BK),(119,interval_floor.sp BL),(120,interval_ceil.sp C7),(65,interval_Valid.sp AR)],[(129,Tryz.f129)],[]⟩ [] 60 Tryz.f123 [.agg ⟨[.int .i64 A2,.int .i64 A3]⟩,.agg ⟨[.int .i64 A5,.int .i64 A4]⟩] []=interval_Div.K BK BL C7 AR A2 A3 A5 A4 (fun r=>some (.tuple ⟨[.agg ⟨[.int .i64 r.1,.int .i64 r.2.1]⟩,.int .i64 r.2.2]⟩,[])):=by kernel_rfl
def interval_Div.o:Option (Int×Int×Int):=interval_Div.K interval_made interval_floor interval_ceil interval_Valid A2 A3 A5 A4 some
def interval_Div:Int×Int×Int:=(interval_Div.o A2 A3 A5 A4).getD default
theorem interval_Div.nat (k:Int×Int×Int→Option R):interval_Div.K BK BL C7 AR A2 A3 A5 A4 k=(interval_Div.K BK BL C7 AR A2 A3 A5 A4 some).bind k:=by
 simp only [interval_Div.K,bcond,Option.bind_some,Option.bind_none]
end
theorem interval_Div.o_eq (a b c d:Int):interval_Div.o a b c d=some (idiv a b c d):=by
  simp only [interval_Div.o,interval_Div.K,interval_Valid.eq,idiv]
  cases h1:V a b with
  |false=>simp
  | true=>cases h2:V c d with
    |false=>simp
    | true=>
      have:=V_iff.1 h1
      have:=V_iff.1 h2
      have w1:IntKind.i64.wrap (0-a)= -a:=by rw [Int.zero_sub]; exact w64 (by omega) (by omega)
      have w2:IntKind.i64.wrap (0-b)= -b:=by rw [Int.zero_sub]; exact w64 (by omega) (by omega)
      have w3:IntKind.i64.wrap (0-c)= -c:=by rw [Int.zero_sub]; exact w64 (by omega) (by omega)
      have w4:IntKind.i64.wrap (0-d)= -d:=by rw [Int.zero_sub]; exact w64 (by omega) (by omega)
      have w5:IntKind.i64.wrap (a*16777216)=a*16777216:=w64 (by omega) (by omega)
      have w6:IntKind.i64.wrap (b*16777216)=b*16777216:=w64 (by omega) (by omega)
      have w7:IntKind.i64.wrap (-a*16777216)= -a*16777216:=w64 (by omega) (by omega)
      have w8:IntKind.i64.wrap (-b*16777216)= -b*16777216:=w64 (by omega) (by omega)
      simp only [w1,w2,w3,w4,w5,w6,w7,w8,mn_eq,mx_eq,Bool.not_true,cond_false,cond_true,Bool.and_self]
      have pos:∀x y u v:Int,-1073741824≤x→x≤y→y≤1073741824→0<u→u≤v→v≤1073741824→interval_made (min (min (interval_floor (x*16777216) u) (interval_floor (x*16777216) u)) (interval_floor (x*16777216) v)) (max (max (interval_ceil (y*16777216) u) (interval_ceil (y*16777216) u)) (interval_ceil (y*16777216) v))=pdiv x y u v:=fun x y u v hx hxy hy hu huv hv=>by
        have hv0:0<v:=by omega
        have f1:interval_floor (x*16777216) u=x*16777216/u:=interval_floor.eq hu (by omega) (by omega)
        have f2:interval_floor (x*16777216) v=x*16777216/v:=interval_floor.eq hv0 (by omega) (by omega)
        have f3:interval_ceil (y*16777216) u=cl (y*16777216) u:=interval_ceil.eq hu (by omega) (by omega)
        have f4:interval_ceil (y*16777216) v=cl (y*16777216) v:=interval_ceil.eq hv0 (by omega) (by omega)
        rw [f1,f2,f3,f4,Int.min_self,Int.max_self]
        have:=fl_le_cl' (x:=x*16777216) (y:=y*16777216) hu (by omega)
        exact interval_made.eq (by omega)
      by_cases h3:c≤0
      · by_cases h4:d≥0
        · simp [h3,h4]
        · have h5:d<0:=by omega
          have n1:((-d) !=0)=true:=by simp; omega
          have n2:((-c) !=0)=true:=by simp; omega
          have n3:¬(c≤0∧0≤d):=by omega
          rw [if_neg n3,if_pos h5]
          simp only [h3,h4,h5,n1,n2,decide_true,decide_false,cond_true,cond_false,pos (-b) (-a) (-d) (-c) (by omega) (by omega) (by omega) (by omega) (by omega) (by omega)]
      · have h5:¬d<0:=by omega
        have n1:(c !=0)=true:=by simp; omega
        have n2:(d !=0)=true:=by simp; omega
        have n3:¬(c≤0∧0≤d):=by omega
        rw [if_neg n3,if_neg h5]
        simp only [h3,h5,n1,n2,decide_true,decide_false,cond_true,cond_false,pos a b c d (by omega) (by omega) (by omega) (by omega) (by omega) (by omega)]
theorem interval_Div.total (a b c d:Int):(interval_Div.o a b c d).isSome=true:=by rw [interval_Div.o_eq]; rfl
theorem interval_Div.eq (a b c d:Int):interval_Div a b c d=idiv a b c d:=by rw [interval_Div,interval_Div.o_eq]; rfl
theorem interval_Div.ok:SOK Tryz.prog 123 (interval_Div.sp interval_Div):=by
 refine sok_of (E:=⟨[(117,interval_extremes.sp),(118,interval_made.sp interval_made),(119,interval_floor.sp interval_floor),(120,interval_ceil.sp interval_ceil),(65,interval_Valid.sp interval_Valid)],[(129,Tryz.f129)],[]⟩) (L:=[]) ⟨(specs_cons interval_extremes.ok (specs_cons interval_made.ok (specs_cons interval_floor.ok (specs_cons interval_ceil.ok (specs_cons interval_Valid.ok specs_nil))))),(inl_cons ⟨Tryz.func129,by decide,rfl⟩ inl_nil),mixed_ok,lps_nil⟩ 60 Tryz.func123 (by decide) rfl no_loops fun vs bl v bl' h=> ?_
 unfold interval_Div.sp at h
 split at h
 ·rename_i A2 A3 A5 A4
  simp only [Option.some.injEq,Prod.mk.injEq] at h
  obtain ⟨hp,rfl,rfl⟩:=h
  have hr:=interval_Div.run interval_made interval_floor interval_ceil interval_Valid A2 A3 A5 A4
  rw [interval_Div.nat] at hr
  obtain ⟨r,h2⟩:=Option.isSome_iff_exists.1 (interval_Div.total A2 A3 A5 A4:(interval_Div.o A2 A3 A5 A4).isSome=true)
  have h3:interval_Div A2 A3 A5 A4=r:=by unfold interval_Div; rw [h2]; rfl
  have h4:interval_Div.K interval_made interval_floor interval_ceil interval_Valid A2 A3 A5 A4 some=some r:=h2
  rw [h4,Option.bind_some] at hr
  rw [h3]
  exact ⟨hr,by simp [okV,Nat.blt],clo_spec 8 _ (by kernel_rfl),told_blk (by kernel_rfl)⟩
 ·cases h
section
variable {R:Type} (BK:Int→Int→(Int×Int×Int)) (AR:Int→Int→(Bool)) (A2:Int) (A3:Int) (A5:Int) (A4:Int)
def interval_Sub.K (k:Int×Int×Int→R):R:=
 let t0:=AR A2 A3
 bif !t0 then k (0,0,1) else
 let t1:=AR A5 A4
 bif !t1 then k (0,0,1) else
 let t2:=BK (IntKind.i64.wrap (A2-A4)) (IntKind.i64.wrap (A3-A5))
 k (t2.1,t2.2.1,t2.2.2)
theorem interval_Sub.run:xfn Tryz.prog ⟨[(118,interval_made.sp BK),(65,interval_Valid.sp AR)],[(129,Tryz.f129)],[]⟩ [] 60 Tryz.f124 [.agg ⟨[.int .i64 A2,.int .i64 A3]⟩,.agg ⟨[.int .i64 A5,.int .i64 A4]⟩] []=interval_Sub.K BK AR A2 A3 A5 A4 (fun r=>some (.tuple ⟨[.agg ⟨[.int .i64 r.1,.int .i64 r.2.1]⟩,.int .i64 r.2.2]⟩,[])):=by kernel_rfl
def interval_Sub:Int×Int×Int:=interval_Sub.K interval_made interval_Valid A2 A3 A5 A4 id
theorem interval_Sub.nat (k:Int×Int×Int→R):interval_Sub.K BK AR A2 A3 A5 A4 k=k (interval_Sub.K BK AR A2 A3 A5 A4 id):=by
 simp only [interval_Sub.K,acond k,id_eq]
theorem interval_Sub.eq (a b c d:Int):interval_Sub a b c d=isub a b c d:=by
 simp only [interval_Sub,interval_Sub.K,id_eq,interval_Valid.eq,isub]
 cases h1:V a b with
 |false=>simp
 | true=>cases h2:V c d with
  |false=>simp
  | true=>
   have:=V_iff.1 h1
   have:=V_iff.1 h2
   rw [w64 (by omega) (by omega),w64 (by omega) (by omega),interval_made.eq (by omega)]
   simp
end
theorem interval_Sub.ok:SOK Tryz.prog 124 (interval_Sub.sp interval_Sub):=by
 refine sok_of (E:=⟨[(118,interval_made.sp interval_made),(65,interval_Valid.sp interval_Valid)],[(129,Tryz.f129)],[]⟩) (L:=[]) ⟨(specs_cons interval_made.ok (specs_cons interval_Valid.ok specs_nil)),(inl_cons ⟨Tryz.func129,by decide,rfl⟩ inl_nil),mixed_ok,lps_nil⟩ 60 Tryz.func124 (by decide) rfl no_loops fun vs bl v bl' h=> ?_
 unfold interval_Sub.sp at h
 split at h
 ·rename_i A2 A3 A5 A4
  simp only [Option.some.injEq,Prod.mk.injEq,true_and] at h
  obtain ⟨rfl,rfl⟩:=h
  refine ⟨?_,by simp [okV,Nat.blt],clo_spec 8 _ (by kernel_rfl),told_blk (by kernel_rfl)⟩
  refine (interval_Sub.run interval_made interval_Valid A2 A3 A5 A4).trans ?_
  refine (interval_Sub.nat interval_made interval_Valid A2 A3 A5 A4 _).trans ?_
  kernel_rfl
 ·cases h
section
variable {R:Type} (AQ:Int→Int→Int→Int→(Int×Int×Int)) (BR:Int→Int→Int→Int→(Int×Int×Int)) (BQ:Int→Int→Int→Int→(Int×Int×Int)) (BP:Int→Int→Int→Int→(Int×Int×Int)) (s0_0:Int) (BF:Int) (BE:Int) (CX:Int) (CW:Int)
def direction_calc_two_interval_Add.K {R:Type} (AQ:Int→Int→Int→Int→(Int×Int×Int)) (BR:Int→Int→Int→Int→(Int×Int×Int)) (BQ:Int→Int→Int→Int→(Int×Int×Int)) (BP:Int→Int→Int→Int→(Int×Int×Int)) (s0_0:Int) (BF:Int) (BE:Int) (CX:Int) (CW:Int) (k:Int×Int×Int→R):R:=
 bif s0_0 !=0 then k (BF,BE,s0_0) else
 let t0:=BR BF BE CX CW
 let t1:=AQ s0_0 t0.1 t0.2.1 t0.2.2
 k (t1.1,t1.2.1,t1.2.2)
theorem direction_calc_two_interval_Add.run:xfn Tryz.prog ⟨[(62,direction_calc_keep.sp AQ),(122,interval_Add.sp BR),(123,interval_Div.sp BQ),(124,interval_Sub.sp BP)],[],[]⟩ [] 60 Tryz.f121 [.pointer (some ⟨0,0,none⟩),.func (.func 122) ⟨[]⟩ ⟨[]⟩,.agg ⟨[.int .i64 BF,.int .i64 BE]⟩,.agg ⟨[.int .i64 CX,.int .i64 CW]⟩] [.cs [.int .i64 s0_0] 98]=direction_calc_two_interval_Add.K AQ BR BQ BP s0_0 BF BE CX CW (fun r=>some (.agg ⟨[.int .i64 r.1,.int .i64 r.2.1]⟩,[.cs [.int .i64 r.2.2] 98])):=by kernel_rfl
def direction_calc_two_interval_Add:Int×Int×Int:=direction_calc_two_interval_Add.K direction_calc_keep interval_Add interval_Div interval_Sub s0_0 BF BE CX CW id
theorem direction_calc_two_interval_Add.nat (k:Int×Int×Int→R):direction_calc_two_interval_Add.K AQ BR BQ BP s0_0 BF BE CX CW k=k (direction_calc_two_interval_Add.K AQ BR BQ BP s0_0 BF BE CX CW id):=by
 simp only [direction_calc_two_interval_Add.K,acond k,id_eq]
theorem direction_calc_two_interval_Add.eq (s a b c d:Int):direction_calc_two_interval_Add s a b c d=st s a b (iadd a b c d):=by
 simp only [direction_calc_two_interval_Add,direction_calc_two_interval_Add.K,id_eq,interval_Add.eq,direction_calc_keep.eq,st]
 by_cases hs:s=0
 ·subst hs; rfl
 ·simp only [bne_of hs,cond_true]
end
section
variable {R:Type} (AQ:Int→Int→Int→Int→(Int×Int×Int)) (BR:Int→Int→Int→Int→(Int×Int×Int)) (BQ:Int→Int→Int→Int→(Int×Int×Int)) (BP:Int→Int→Int→Int→(Int×Int×Int)) (s0_0:Int) (BF:Int) (BE:Int) (CX:Int) (CW:Int)
def direction_calc_two_interval_Sub.K {R:Type} (AQ:Int→Int→Int→Int→(Int×Int×Int)) (BR:Int→Int→Int→Int→(Int×Int×Int)) (BQ:Int→Int→Int→Int→(Int×Int×Int)) (BP:Int→Int→Int→Int→(Int×Int×Int)) (s0_0:Int) (BF:Int) (BE:Int) (CX:Int) (CW:Int) (k:Int×Int×Int→R):R:=
 bif s0_0 !=0 then k (BF,BE,s0_0) else
 let t0:=BP BF BE CX CW
 let t1:=AQ s0_0 t0.1 t0.2.1 t0.2.2
 k (t1.1,t1.2.1,t1.2.2)
theorem direction_calc_two_interval_Sub.run:xfn Tryz.prog ⟨[(62,direction_calc_keep.sp AQ),(122,interval_Add.sp BR),(123,interval_Div.sp BQ),(124,interval_Sub.sp BP)],[],[]⟩ [] 60 Tryz.f121 [.pointer (some ⟨0,0,none⟩),.func (.func 124) ⟨[]⟩ ⟨[]⟩,.agg ⟨[.int .i64 BF,.int .i64 BE]⟩,.agg ⟨[.int .i64 CX,.int .i64 CW]⟩] [.cs [.int .i64 s0_0] 98]=direction_calc_two_interval_Sub.K AQ BR BQ BP s0_0 BF BE CX CW (fun r=>some (.agg ⟨[.int .i64 r.1,.int .i64 r.2.1]⟩,[.cs [.int .i64 r.2.2] 98])):=by kernel_rfl
def direction_calc_two_interval_Sub:Int×Int×Int:=direction_calc_two_interval_Sub.K direction_calc_keep interval_Add interval_Div interval_Sub s0_0 BF BE CX CW id
theorem direction_calc_two_interval_Sub.nat (k:Int×Int×Int→R):direction_calc_two_interval_Sub.K AQ BR BQ BP s0_0 BF BE CX CW k=k (direction_calc_two_interval_Sub.K AQ BR BQ BP s0_0 BF BE CX CW id):=by
 simp only [direction_calc_two_interval_Sub.K,acond k,id_eq]
theorem direction_calc_two_interval_Sub.eq (s a b c d:Int):direction_calc_two_interval_Sub s a b c d=st s a b (isub a b c d):=by
 simp only [direction_calc_two_interval_Sub,direction_calc_two_interval_Sub.K,id_eq,interval_Sub.eq,direction_calc_keep.eq,st]
 by_cases hs:s=0
 ·subst hs; rfl
 ·simp only [bne_of hs,cond_true]
end
section
variable {R:Type} (AQ:Int→Int→Int→Int→(Int×Int×Int)) (BR:Int→Int→Int→Int→(Int×Int×Int)) (BQ:Int→Int→Int→Int→(Int×Int×Int)) (BP:Int→Int→Int→Int→(Int×Int×Int)) (s0_0:Int) (BF:Int) (BE:Int) (CX:Int) (CW:Int)
def direction_calc_two_interval_Div.K {R:Type} (AQ:Int→Int→Int→Int→(Int×Int×Int)) (BR:Int→Int→Int→Int→(Int×Int×Int)) (BQ:Int→Int→Int→Int→(Int×Int×Int)) (BP:Int→Int→Int→Int→(Int×Int×Int)) (s0_0:Int) (BF:Int) (BE:Int) (CX:Int) (CW:Int) (k:Int×Int×Int→R):R:=
 bif s0_0 !=0 then k (BF,BE,s0_0) else
 let t0:=BQ BF BE CX CW
 let t1:=AQ s0_0 t0.1 t0.2.1 t0.2.2
 k (t1.1,t1.2.1,t1.2.2)
theorem direction_calc_two_interval_Div.run:xfn Tryz.prog ⟨[(62,direction_calc_keep.sp AQ),(122,interval_Add.sp BR),(123,interval_Div.sp BQ),(124,interval_Sub.sp BP)],[],[]⟩ [] 60 Tryz.f121 [.pointer (some ⟨0,0,none⟩),.func (.func 123) ⟨[]⟩ ⟨[]⟩,.agg ⟨[.int .i64 BF,.int .i64 BE]⟩,.agg ⟨[.int .i64 CX,.int .i64 CW]⟩] [.cs [.int .i64 s0_0] 98]=direction_calc_two_interval_Div.K AQ BR BQ BP s0_0 BF BE CX CW (fun r=>some (.agg ⟨[.int .i64 r.1,.int .i64 r.2.1]⟩,[.cs [.int .i64 r.2.2] 98])):=by kernel_rfl
def direction_calc_two_interval_Div:Int×Int×Int:=direction_calc_two_interval_Div.K direction_calc_keep interval_Add interval_Div interval_Sub s0_0 BF BE CX CW id
theorem direction_calc_two_interval_Div.nat (k:Int×Int×Int→R):direction_calc_two_interval_Div.K AQ BR BQ BP s0_0 BF BE CX CW k=k (direction_calc_two_interval_Div.K AQ BR BQ BP s0_0 BF BE CX CW id):=by
 simp only [direction_calc_two_interval_Div.K,acond k,id_eq]
theorem direction_calc_two_interval_Div.eq (s a b c d:Int):direction_calc_two_interval_Div s a b c d=st s a b (idiv a b c d):=by
 simp only [direction_calc_two_interval_Div,direction_calc_two_interval_Div.K,id_eq,interval_Div.eq,direction_calc_keep.eq,st]
 by_cases hs:s=0
 ·subst hs; rfl
 ·simp only [bne_of hs,cond_true]
end
theorem direction_calc_two.ok:SOK Tryz.prog 121 (direction_calc_two.sp direction_calc_two_interval_Add direction_calc_two_interval_Sub direction_calc_two_interval_Div):=by
 refine sok_of (E:=⟨[(62,direction_calc_keep.sp direction_calc_keep),(122,interval_Add.sp interval_Add),(123,interval_Div.sp interval_Div),(124,interval_Sub.sp interval_Sub)],[],[]⟩) (L:=[]) ⟨(specs_cons direction_calc_keep.ok (specs_cons interval_Add.ok (specs_cons interval_Div.ok (specs_cons interval_Sub.ok specs_nil)))),inl_nil,mixed_ok,lps_nil⟩ 60 Tryz.func121 (by decide) rfl no_loops fun vs bl v bl' h=> ?_
 unfold direction_calc_two.sp at h
 split at h
 ·rename_i BF BE CX CW s0_0
  simp only [Option.some.injEq,Prod.mk.injEq,true_and] at h
  obtain ⟨rfl,rfl⟩:=h
  refine ⟨?_,by simp [okV,Nat.blt],clo_spec 8 _ (by kernel_rfl),told_blk (by kernel_rfl)⟩
  refine (direction_calc_two_interval_Add.run direction_calc_keep interval_Add interval_Div interval_Sub s0_0 BF BE CX CW).trans ?_
  refine (direction_calc_two_interval_Add.nat direction_calc_keep interval_Add interval_Div interval_Sub s0_0 BF BE CX CW _).trans ?_
  kernel_rfl
 ·rename_i BF BE CX CW s0_0
  simp only [Option.some.injEq,Prod.mk.injEq,true_and] at h
  obtain ⟨rfl,rfl⟩:=h
  refine ⟨?_,by simp [okV,Nat.blt],clo_spec 8 _ (by kernel_rfl),told_blk (by kernel_rfl)⟩
  refine (direction_calc_two_interval_Sub.run direction_calc_keep interval_Add interval_Div interval_Sub s0_0 BF BE CX CW).trans ?_
  refine (direction_calc_two_interval_Sub.nat direction_calc_keep interval_Add interval_Div interval_Sub s0_0 BF BE CX CW _).trans ?_
  kernel_rfl
 ·rename_i BF BE CX CW s0_0
  simp only [Option.some.injEq,Prod.mk.injEq,true_and] at h
  obtain ⟨rfl,rfl⟩:=h
  refine ⟨?_,by simp [okV,Nat.blt],clo_spec 8 _ (by kernel_rfl),told_blk (by kernel_rfl)⟩
  refine (direction_calc_two_interval_Div.run direction_calc_keep interval_Add interval_Div interval_Sub s0_0 BF BE CX CW).trans ?_
  refine (direction_calc_two_interval_Div.nat direction_calc_keep interval_Add interval_Div interval_Sub s0_0 BF BE CX CW _).trans ?_
  kernel_rfl
 ·cases h
section
variable {R:Type} (AO:Int→Int→Int→Int→Int→(Int×Int×Int)) (AM:Int→Int→Int→Int→Int→(Int×Int×Int)) (AN:Int→Int→Int→Int→Int→(Int×Int×Int)) (BR:Int→Int→Int→Int→(Int×Int×Int)) (s0_0:Int) (A5:Int) (A4:Int) (BF:Int) (BE:Int)
def direction_calc_add.K {R:Type} (AO:Int→Int→Int→Int→Int→(Int×Int×Int)) (AM:Int→Int→Int→Int→Int→(Int×Int×Int)) (AN:Int→Int→Int→Int→Int→(Int×Int×Int)) (BR:Int→Int→Int→Int→(Int×Int×Int)) (s0_0:Int) (A5:Int) (A4:Int) (BF:Int) (BE:Int) (k:Int×Int×Int→R):R:=
 let t0:=AO s0_0 A5 A4 BF BE
 k (t0.1,t0.2.1,t0.2.2)
theorem direction_calc_add.run:xfn Tryz.prog ⟨[(121,direction_calc_two.sp AO AM AN),(122,interval_Add.sp BR)],[],[]⟩ [] 60 Tryz.f68 [.pointer (some ⟨0,0,none⟩),.agg ⟨[.int .i64 A5,.int .i64 A4]⟩,.agg ⟨[.int .i64 BF,.int .i64 BE]⟩] [.cs [.int .i64 s0_0] 98]=direction_calc_add.K AO AM AN BR s0_0 A5 A4 BF BE (fun r=>some (.agg ⟨[.int .i64 r.1,.int .i64 r.2.1]⟩,[.cs [.int .i64 r.2.2] 98])):=by kernel_rfl
def direction_calc_add:Int×Int×Int:=direction_calc_add.K direction_calc_two_interval_Add direction_calc_two_interval_Sub direction_calc_two_interval_Div interval_Add s0_0 A5 A4 BF BE id
theorem direction_calc_add.nat (k:Int×Int×Int→R):direction_calc_add.K AO AM AN BR s0_0 A5 A4 BF BE k=k (direction_calc_add.K AO AM AN BR s0_0 A5 A4 BF BE id):=by
 simp only [direction_calc_add.K,acond k,id_eq]
theorem direction_calc_add.eq (s a b c d:Int):direction_calc_add s a b c d=st s a b (iadd a b c d):=by
 simp only [direction_calc_add,direction_calc_add.K,id_eq,direction_calc_two_interval_Add.eq]
end
theorem direction_calc_add.ok:SOK Tryz.prog 68 (direction_calc_add.sp direction_calc_add):=by
 refine sok_of (E:=⟨[(121,direction_calc_two.sp direction_calc_two_interval_Add direction_calc_two_interval_Sub direction_calc_two_interval_Div),(122,interval_Add.sp interval_Add)],[],[]⟩) (L:=[]) ⟨(specs_cons direction_calc_two.ok (specs_cons interval_Add.ok specs_nil)),inl_nil,mixed_ok,lps_nil⟩ 60 Tryz.func68 (by decide) rfl no_loops fun vs bl v bl' h=> ?_
 unfold direction_calc_add.sp at h
 split at h
 ·rename_i A5 A4 BF BE s0_0
  simp only [Option.some.injEq,Prod.mk.injEq,true_and] at h
  obtain ⟨rfl,rfl⟩:=h
  refine ⟨?_,by simp [okV,Nat.blt],clo_spec 8 _ (by kernel_rfl),told_blk (by kernel_rfl)⟩
  refine (direction_calc_add.run direction_calc_two_interval_Add direction_calc_two_interval_Sub direction_calc_two_interval_Div interval_Add s0_0 A5 A4 BF BE).trans ?_
  refine (direction_calc_add.nat direction_calc_two_interval_Add direction_calc_two_interval_Sub direction_calc_two_interval_Div interval_Add s0_0 A5 A4 BF BE _).trans ?_
  kernel_rfl
 ·cases h
section
variable {R:Type} (AO:Int→Int→Int→Int→Int→(Int×Int×Int)) (AM:Int→Int→Int→Int→Int→(Int×Int×Int)) (AN:Int→Int→Int→Int→Int→(Int×Int×Int)) (BQ:Int→Int→Int→Int→(Int×Int×Int)) (s0_0:Int) (A5:Int) (A4:Int) (BF:Int) (BE:Int)
def direction_calc_div.K {R:Type} (AO:Int→Int→Int→Int→Int→(Int×Int×Int)) (AM:Int→Int→Int→Int→Int→(Int×Int×Int)) (AN:Int→Int→Int→Int→Int→(Int×Int×Int)) (BQ:Int→Int→Int→Int→(Int×Int×Int)) (s0_0:Int) (A5:Int) (A4:Int) (BF:Int) (BE:Int) (k:Int×Int×Int→R):R:=
 let t0:=AN s0_0 A5 A4 BF BE
 k (t0.1,t0.2.1,t0.2.2)
theorem direction_calc_div.run:xfn Tryz.prog ⟨[(121,direction_calc_two.sp AO AM AN),(123,interval_Div.sp BQ)],[],[]⟩ [] 60 Tryz.f69 [.pointer (some ⟨0,0,none⟩),.agg ⟨[.int .i64 A5,.int .i64 A4]⟩,.agg ⟨[.int .i64 BF,.int .i64 BE]⟩] [.cs [.int .i64 s0_0] 98]=direction_calc_div.K AO AM AN BQ s0_0 A5 A4 BF BE (fun r=>some (.agg ⟨[.int .i64 r.1,.int .i64 r.2.1]⟩,[.cs [.int .i64 r.2.2] 98])):=by kernel_rfl
def direction_calc_div:Int×Int×Int:=direction_calc_div.K direction_calc_two_interval_Add direction_calc_two_interval_Sub direction_calc_two_interval_Div interval_Div s0_0 A5 A4 BF BE id
theorem direction_calc_div.nat (k:Int×Int×Int→R):direction_calc_div.K AO AM AN BQ s0_0 A5 A4 BF BE k=k (direction_calc_div.K AO AM AN BQ s0_0 A5 A4 BF BE id):=by
 simp only [direction_calc_div.K,acond k,id_eq]
theorem direction_calc_div.eq (s a b c d:Int):direction_calc_div s a b c d=st s a b (idiv a b c d):=by
 simp only [direction_calc_div,direction_calc_div.K,id_eq,direction_calc_two_interval_Div.eq]
end
theorem direction_calc_div.ok:SOK Tryz.prog 69 (direction_calc_div.sp direction_calc_div):=by
 refine sok_of (E:=⟨[(121,direction_calc_two.sp direction_calc_two_interval_Add direction_calc_two_interval_Sub direction_calc_two_interval_Div),(123,interval_Div.sp interval_Div)],[],[]⟩) (L:=[]) ⟨(specs_cons direction_calc_two.ok (specs_cons interval_Div.ok specs_nil)),inl_nil,mixed_ok,lps_nil⟩ 60 Tryz.func69 (by decide) rfl no_loops fun vs bl v bl' h=> ?_
 unfold direction_calc_div.sp at h
 split at h
 ·rename_i A5 A4 BF BE s0_0
  simp only [Option.some.injEq,Prod.mk.injEq,true_and] at h
  obtain ⟨rfl,rfl⟩:=h
  refine ⟨?_,by simp [okV,Nat.blt],clo_spec 8 _ (by kernel_rfl),told_blk (by kernel_rfl)⟩
  refine (direction_calc_div.run direction_calc_two_interval_Add direction_calc_two_interval_Sub direction_calc_two_interval_Div interval_Div s0_0 A5 A4 BF BE).trans ?_
  refine (direction_calc_div.nat direction_calc_two_interval_Add direction_calc_two_interval_Sub direction_calc_two_interval_Div interval_Div s0_0 A5 A4 BF BE _).trans ?_
  kernel_rfl
 ·cases h
section
variable {R:Type} (AO:Int→Int→Int→Int→Int→(Int×Int×Int)) (AM:Int→Int→Int→Int→Int→(Int×Int×Int)) (AN:Int→Int→Int→Int→Int→(Int×Int×Int)) (BP:Int→Int→Int→Int→(Int×Int×Int)) (s0_0:Int) (A5:Int) (A4:Int) (BF:Int) (BE:Int)
def direction_calc_sub.K {R:Type} (AO:Int→Int→Int→Int→Int→(Int×Int×Int)) (AM:Int→Int→Int→Int→Int→(Int×Int×Int)) (AN:Int→Int→Int→Int→Int→(Int×Int×Int)) (BP:Int→Int→Int→Int→(Int×Int×Int)) (s0_0:Int) (A5:Int) (A4:Int) (BF:Int) (BE:Int) (k:Int×Int×Int→R):R:=
 let t0:=AM s0_0 A5 A4 BF BE
 k (t0.1,t0.2.1,t0.2.2)
theorem direction_calc_sub.run:xfn Tryz.prog ⟨[(121,direction_calc_two.sp AO AM AN),(124,interval_Sub.sp BP)],[],[]⟩ [] 60 Tryz.f70 [.pointer (some ⟨0,0,none⟩),.agg ⟨[.int .i64 A5,.int .i64 A4]⟩,.agg ⟨[.int .i64 BF,.int .i64 BE]⟩] [.cs [.int .i64 s0_0] 98]=direction_calc_sub.K AO AM AN BP s0_0 A5 A4 BF BE (fun r=>some (.agg ⟨[.int .i64 r.1,.int .i64 r.2.1]⟩,[.cs [.int .i64 r.2.2] 98])):=by kernel_rfl
def direction_calc_sub:Int×Int×Int:=direction_calc_sub.K direction_calc_two_interval_Add direction_calc_two_interval_Sub direction_calc_two_interval_Div interval_Sub s0_0 A5 A4 BF BE id
theorem direction_calc_sub.nat (k:Int×Int×Int→R):direction_calc_sub.K AO AM AN BP s0_0 A5 A4 BF BE k=k (direction_calc_sub.K AO AM AN BP s0_0 A5 A4 BF BE id):=by
 simp only [direction_calc_sub.K,acond k,id_eq]
theorem direction_calc_sub.eq (s a b c d:Int):direction_calc_sub s a b c d=st s a b (isub a b c d):=by
 simp only [direction_calc_sub,direction_calc_sub.K,id_eq,direction_calc_two_interval_Sub.eq]
end
theorem direction_calc_sub.ok:SOK Tryz.prog 70 (direction_calc_sub.sp direction_calc_sub):=by
 refine sok_of (E:=⟨[(121,direction_calc_two.sp direction_calc_two_interval_Add direction_calc_two_interval_Sub direction_calc_two_interval_Div),(124,interval_Sub.sp interval_Sub)],[],[]⟩) (L:=[]) ⟨(specs_cons direction_calc_two.ok (specs_cons interval_Sub.ok specs_nil)),inl_nil,mixed_ok,lps_nil⟩ 60 Tryz.func70 (by decide) rfl no_loops fun vs bl v bl' h=> ?_
 unfold direction_calc_sub.sp at h
 split at h
 ·rename_i A5 A4 BF BE s0_0
  simp only [Option.some.injEq,Prod.mk.injEq,true_and] at h
  obtain ⟨rfl,rfl⟩:=h
  refine ⟨?_,by simp [okV,Nat.blt],clo_spec 8 _ (by kernel_rfl),told_blk (by kernel_rfl)⟩
  refine (direction_calc_sub.run direction_calc_two_interval_Add direction_calc_two_interval_Sub direction_calc_two_interval_Div interval_Sub s0_0 A5 A4 BF BE).trans ?_
  refine (direction_calc_sub.nat direction_calc_two_interval_Add direction_calc_two_interval_Sub direction_calc_two_interval_Div interval_Sub s0_0 A5 A4 BF BE _).trans ?_
  kernel_rfl
 ·cases h
section
variable {R:Type} (CC:Int→Int→Int→Int→Int→Int→Int→(Int×Int×Int×Int×Int×Int×Int×Int)) (AR:Int→Int→(Bool)) (AP:Int→Int→Int→(Int×Int×Int)) (C8:Int→Int→(Int×Int×Int)) (BO:Int→Int→Int→Int→Int→(Int×Int×Int)) (CT:Int→Int→Int→Int→Int→(Int×Int×Int)) (DZ:Int→Int→Int→Int→Int→(Int×Int×Int)) (A2:Int) (A3:Int) (A5:Int) (A4:Int)
def direction_Of.K {R:Type} (CC:Int→Int→Int→Int→Int→Int→Int→(Int×Int×Int×Int×Int×Int×Int×Int)) (AR:Int→Int→(Bool)) (AP:Int→Int→Int→(Int×Int×Int)) (C8:Int→Int→(Int×Int×Int)) (BO:Int→Int→Int→Int→Int→(Int×Int×Int)) (CT:Int→Int→Int→Int→Int→(Int×Int×Int)) (DZ:Int→Int→Int→Int→Int→(Int×Int×Int)) (A2:Int) (A3:Int) (A5:Int) (A4:Int) (k:Int×Int×Int×Int×Int×Int×Int→R):R:=
 let t0:=AR A2 A3
 bif !t0 then k (0,0,0,0,0,0,1) else
 let t1:=AR A5 A4
 bif !t1 then k (0,0,0,0,0,0,1) else
 let t2:=AP 0 A2 A3
 let t3:=AP t2.2.2 A5 A4
 let t4:=BO t3.2.2 t2.1 t2.2.1 t3.1 t3.2.1
 let t5:=BO t4.2.2 16777216 16777216 t4.1 t4.2.1
 let t6:=BO t5.2.2 A2 A3 A2 A3
 let t7:=CT t6.2.2 t6.1 t6.2.1 t5.1 t5.2.1
 let t8:=BO t7.2.2 A5 A4 A5 A4
 let t9:=CT t8.2.2 t8.1 t8.2.1 t5.1 t5.2.1
 let t10:=DZ t9.2.2 t4.1 t4.2.1 16777216 16777216
 let t11:=CT t10.2.2 t10.1 t10.2.1 t5.1 t5.2.1
 let t12:=CC t11.2.2 t7.1 t7.2.1 t9.1 t9.2.1 t11.1 t11.2.1
 k (t12.1,t12.2.1,t12.2.2.1,t12.2.2.2.1,t12.2.2.2.2.1,t12.2.2.2.2.2.1,t12.2.2.2.2.2.2.1)
theorem direction_Of.run:xfn Tryz.prog ⟨[(64,direction_calc_box.sp CC),(65,interval_Valid.sp AR),(66,direction_calc_one.sp AP),(67,interval_Square.sp C8),(68,direction_calc_add.sp BO),(69,direction_calc_div.sp CT),(70,direction_calc_sub.sp DZ)],[],[]⟩ [] 60 Tryz.f20 [.agg ⟨[.int .i64 A2,.int .i64 A3]⟩,.agg ⟨[.int .i64 A5,.int .i64 A4]⟩] []=direction_Of.K CC AR AP C8 BO CT DZ A2 A3 A5 A4 (fun r=>some (.tuple ⟨[.agg ⟨[.int .i64 r.1,.int .i64 r.2.1,.int .i64 r.2.2.1,.int .i64 r.2.2.2.1,.int .i64 r.2.2.2.2.1,.int .i64 r.2.2.2.2.2.1]⟩,.int .i64 r.2.2.2.2.2.2]⟩,[])):=by kernel_rfl
def direction_Of:Int×Int×Int×Int×Int×Int×Int:=direction_Of.K direction_calc_box interval_Valid direction_calc_one_interval_Square interval_Square direction_calc_add direction_calc_div direction_calc_sub A2 A3 A5 A4 id
theorem direction_Of.nat (k:Int×Int×Int×Int×Int×Int×Int→R):direction_Of.K CC AR AP C8 BO CT DZ A2 A3 A5 A4 k=k (direction_Of.K CC AR AP C8 BO CT DZ A2 A3 A5 A4 id):=by
 simp only [direction_Of.K,acond k,id_eq]
end
def dnorm (a:Bx):Re I2:=bif VB a then (sqR a.1).bind fun x=>(sqR a.2.1).bind fun y=>(sqR a.2.2).bind fun z=>(addR x y).bind fun s=>addR s z else .er 1
def dof (u v:I2):Re Bx:=bif V2 u then (bif V2 v then (sqR u).bind fun p=>(sqR v).bind fun q=>(addR p q).bind fun s=>(addR one2 s).bind fun w=>(addR u u).bind fun x=>(divR x w).bind fun X=>(addR v v).bind fun y=>(divR y w).bind fun Y=>(subR s one2).bind fun z=>(divR z w).bind fun Z=> .ok (X,Y,Z) else .er 1) else .er 1
theorem dnorm_nz (a:Bx):Nz (dnorm a):=Nz.cond ((Nz.t3 _).bind fun _=>(Nz.t3 _).bind fun _=>(Nz.t3 _).bind fun _=>(Nz.t3 _).bind fun _=>Nz.t3 _) Nz.one
theorem dof_nz (u v:I2):Nz (dof u v):=Nz.cond (Nz.cond ((Nz.t3 _).bind fun _=>(Nz.t3 _).bind fun _=>(Nz.t3 _).bind fun _=>(Nz.t3 _).bind fun _=>(Nz.t3 _).bind fun _=>(Nz.t3 _).bind fun _=>(Nz.t3 _).bind fun _=>(Nz.t3 _).bind fun _=>(Nz.t3 _).bind fun _=>(Nz.t3 _).bind fun _=>Nz.ok) Nz.one) Nz.one
theorem direction_Of.eq (a0 a1 b0 b1:Int):direction_Of a0 a1 b0 b1=o7 (dof (a0,a1) (b0,b1)):=by
 simp only [direction_Of,direction_Of.K,id_eq,interval_Valid.eq,direction_calc_one_interval_Square.eq,direction_calc_add.eq,direction_calc_sub.eq,direction_calc_div.eq,direction_calc_box,direction_calc_box.K,id_eq,dof,one2,sqR,addR,subR,divR,V2]
 cases hV0:V a0 a1 with
 | false=>
  simp only [hV0,st0,kr0,st70,t3_ok,bind_ok,bind_er,o7,o3,o2,o11,V2_mk,kp0,cond_true,cond_false,Bool.not_true,Bool.not_false,Bool.false_and,Bool.and_false,Bool.true_and,Bool.and_true,bne_self_eq_false,beq_self_eq_true,if_true,if_false]
 | true=>
  cases hV1:V b0 b1 with
  | false=>
   simp only [hV0,hV1,st0,kr0,st70,t3_ok,bind_ok,bind_er,o7,o3,o2,o11,V2_mk,kp0,cond_true,cond_false,Bool.not_true,Bool.not_false,Bool.false_and,Bool.and_false,Bool.true_and,Bool.and_true,bne_self_eq_false,beq_self_eq_true,if_true,if_false]
  | true=>
   rcases t3c (isq a0 a1) with ⟨p0,p1,h0⟩|⟨p0,p1,e0,n0,h0⟩
   ·simp only [hV0, hV1,h0,st0,kr0,st70,t3_ok,bind_ok,bind_er,o7,o3,o2,o11,V2_mk,kp0,cond_true,cond_false,Bool.not_true,Bool.not_false,Bool.false_and,Bool.and_false,Bool.true_and,Bool.and_true,bne_self_eq_false,beq_self_eq_true,if_true,if_false]
    rcases t3c (isq b0 b1) with ⟨q0,q1,h1⟩|⟨q0,q1,e1,n1,h1⟩
    ·simp only [h1,st0,kr0,st70,t3_ok,bind_ok,bind_er,o7,o3,o2,o11,V2_mk,kp0,cond_true,cond_false,Bool.not_true,Bool.not_false,Bool.false_and,Bool.and_false,Bool.true_and,Bool.and_true,bne_self_eq_false,beq_self_eq_true,if_true,if_false]
     rcases t3c (iadd p0 p1 q0 q1) with ⟨s0,s1,h2⟩|⟨s0,s1,e2,n2,h2⟩
     ·simp only [h2,st0,kr0,st70,t3_ok,bind_ok,bind_er,o7,o3,o2,o11,V2_mk,kp0,cond_true,cond_false,Bool.not_true,Bool.not_false,Bool.false_and,Bool.and_false,Bool.true_and,Bool.and_true,bne_self_eq_false,beq_self_eq_true,if_true,if_false]
      rcases t3c (iadd 16777216 16777216 s0 s1) with ⟨w0,w1,h3⟩|⟨w0,w1,e3,n3,h3⟩
      ·simp only [h3,st0,kr0,st70,t3_ok,bind_ok,bind_er,o7,o3,o2,o11,V2_mk,kp0,cond_true,cond_false,Bool.not_true,Bool.not_false,Bool.false_and,Bool.and_false,Bool.true_and,Bool.and_true,bne_self_eq_false,beq_self_eq_true,if_true,if_false]
       rcases t3c (iadd a0 a1 a0 a1) with ⟨x0,x1,h4⟩|⟨x0,x1,e4,n4,h4⟩
       ·simp only [h4,st0,kr0,st70,t3_ok,bind_ok,bind_er,o7,o3,o2,o11,V2_mk,kp0,cond_true,cond_false,Bool.not_true,Bool.not_false,Bool.false_and,Bool.and_false,Bool.true_and,Bool.and_true,bne_self_eq_false,beq_self_eq_true,if_true,if_false]
        rcases t3c (idiv x0 x1 w0 w1) with ⟨X0,X1,h5⟩|⟨X0,X1,e5,n5,h5⟩
        ·simp only [h5,st0,kr0,st70,t3_ok,bind_ok,bind_er,o7,o3,o2,o11,V2_mk,kp0,cond_true,cond_false,Bool.not_true,Bool.not_false,Bool.false_and,Bool.and_false,Bool.true_and,Bool.and_true,bne_self_eq_false,beq_self_eq_true,if_true,if_false]
         rcases t3c (iadd b0 b1 b0 b1) with ⟨y0,y1,h6⟩|⟨y0,y1,e6,n6,h6⟩
         ·simp only [h6,st0,kr0,st70,t3_ok,bind_ok,bind_er,o7,o3,o2,o11,V2_mk,kp0,cond_true,cond_false,Bool.not_true,Bool.not_false,Bool.false_and,Bool.and_false,Bool.true_and,Bool.and_true,bne_self_eq_false,beq_self_eq_true,if_true,if_false]
          rcases t3c (idiv y0 y1 w0 w1) with ⟨Y0,Y1,h7⟩|⟨Y0,Y1,e7,n7,h7⟩
          ·simp only [h7,st0,kr0,st70,t3_ok,bind_ok,bind_er,o7,o3,o2,o11,V2_mk,kp0,cond_true,cond_false,Bool.not_true,Bool.not_false,Bool.false_and,Bool.and_false,Bool.true_and,Bool.and_true,bne_self_eq_false,beq_self_eq_true,if_true,if_false]
           rcases t3c (isub s0 s1 16777216 16777216) with ⟨z0,z1,h8⟩|⟨z0,z1,e8,n8,h8⟩
           ·simp only [h8,st0,kr0,st70,t3_ok,bind_ok,bind_er,o7,o3,o2,o11,V2_mk,kp0,cond_true,cond_false,Bool.not_true,Bool.not_false,Bool.false_and,Bool.and_false,Bool.true_and,Bool.and_true,bne_self_eq_false,beq_self_eq_true,if_true,if_false]
            rcases t3c (idiv z0 z1 w0 w1) with ⟨Z0,Z1,h9⟩|⟨Z0,Z1,e9,n9,h9⟩
            ·simp only [h9,st0,kr0,st70,t3_ok,bind_ok,bind_er,o7,o3,o2,o11,V2_mk,kp0,cond_true,cond_false,Bool.not_true,Bool.not_false,Bool.false_and,Bool.and_false,Bool.true_and,Bool.and_true,bne_self_eq_false,beq_self_eq_true,if_true,if_false]
            ·simp only [h9,stE n9,krE n9,st7E n9,t3_er n9,bne_of n9,beq_of n9,kpn _ n9,st0,kr0,st70,t3_ok,bind_ok,bind_er,o7,o3,o2,o11,V2_mk,kp0,cond_true,cond_false,Bool.not_true,Bool.not_false,Bool.false_and,Bool.and_false,Bool.true_and,Bool.and_true,bne_self_eq_false,beq_self_eq_true,if_true,if_false]
           ·simp only [h8,stE n8,krE n8,st7E n8,t3_er n8,bne_of n8,beq_of n8,kpn _ n8,st0,kr0,st70,t3_ok,bind_ok,bind_er,o7,o3,o2,o11,V2_mk,kp0,cond_true,cond_false,Bool.not_true,Bool.not_false,Bool.false_and,Bool.and_false,Bool.true_and,Bool.and_true,bne_self_eq_false,beq_self_eq_true,if_true,if_false]
          ·simp only [h7,stE n7,krE n7,st7E n7,t3_er n7,bne_of n7,beq_of n7,kpn _ n7,st0,kr0,st70,t3_ok,bind_ok,bind_er,o7,o3,o2,o11,V2_mk,kp0,cond_true,cond_false,Bool.not_true,Bool.not_false,Bool.false_and,Bool.and_false,Bool.true_and,Bool.and_true,bne_self_eq_false,beq_self_eq_true,if_true,if_false]
         ·simp only [h6,stE n6,krE n6,st7E n6,t3_er n6,bne_of n6,beq_of n6,kpn _ n6,st0,kr0,st70,t3_ok,bind_ok,bind_er,o7,o3,o2,o11,V2_mk,kp0,cond_true,cond_false,Bool.not_true,Bool.not_false,Bool.false_and,Bool.and_false,Bool.true_and,Bool.and_true,bne_self_eq_false,beq_self_eq_true,if_true,if_false]
        ·simp only [h5,stE n5,krE n5,st7E n5,t3_er n5,bne_of n5,beq_of n5,kpn _ n5,st0,kr0,st70,t3_ok,bind_ok,bind_er,o7,o3,o2,o11,V2_mk,kp0,cond_true,cond_false,Bool.not_true,Bool.not_false,Bool.false_and,Bool.and_false,Bool.true_and,Bool.and_true,bne_self_eq_false,beq_self_eq_true,if_true,if_false]
       ·simp only [h4,stE n4,krE n4,st7E n4,t3_er n4,bne_of n4,beq_of n4,kpn _ n4,st0,kr0,st70,t3_ok,bind_ok,bind_er,o7,o3,o2,o11,V2_mk,kp0,cond_true,cond_false,Bool.not_true,Bool.not_false,Bool.false_and,Bool.and_false,Bool.true_and,Bool.and_true,bne_self_eq_false,beq_self_eq_true,if_true,if_false]
      ·simp only [h3,stE n3,krE n3,st7E n3,t3_er n3,bne_of n3,beq_of n3,kpn _ n3,st0,kr0,st70,t3_ok,bind_ok,bind_er,o7,o3,o2,o11,V2_mk,kp0,cond_true,cond_false,Bool.not_true,Bool.not_false,Bool.false_and,Bool.and_false,Bool.true_and,Bool.and_true,bne_self_eq_false,beq_self_eq_true,if_true,if_false]
     ·simp only [h2,stE n2,krE n2,st7E n2,t3_er n2,bne_of n2,beq_of n2,kpn _ n2,st0,kr0,st70,t3_ok,bind_ok,bind_er,o7,o3,o2,o11,V2_mk,kp0,cond_true,cond_false,Bool.not_true,Bool.not_false,Bool.false_and,Bool.and_false,Bool.true_and,Bool.and_true,bne_self_eq_false,beq_self_eq_true,if_true,if_false]
    ·simp only [h1,stE n1,krE n1,st7E n1,t3_er n1,bne_of n1,beq_of n1,kpn _ n1,st0,kr0,st70,t3_ok,bind_ok,bind_er,o7,o3,o2,o11,V2_mk,kp0,cond_true,cond_false,Bool.not_true,Bool.not_false,Bool.false_and,Bool.and_false,Bool.true_and,Bool.and_true,bne_self_eq_false,beq_self_eq_true,if_true,if_false]
   ·simp only [hV0,hV1,h0,stE n0,krE n0,st7E n0,t3_er n0,bne_of n0,beq_of n0,kpn _ n0,st0,kr0,st70,t3_ok,bind_ok,bind_er,o7,o3,o2,o11,V2_mk,kp0,cond_true,cond_false,Bool.not_true,Bool.not_false,Bool.false_and,Bool.and_false,Bool.true_and,Bool.and_true,bne_self_eq_false,beq_self_eq_true,if_true,if_false]
theorem direction_Of.ok:SOK Tryz.prog 20 (direction_Of.sp direction_Of):=by
 refine sok_of (E:=⟨[(64,direction_calc_box.sp direction_calc_box),(65,interval_Valid.sp interval_Valid),(66,direction_calc_one.sp direction_calc_one_interval_Square),(67,interval_Square.sp interval_Square),(68,direction_calc_add.sp direction_calc_add),(69,direction_calc_div.sp direction_calc_div),(70,direction_calc_sub.sp direction_calc_sub)],[],[]⟩) (L:=[]) ⟨(specs_cons direction_calc_box.ok (specs_cons interval_Valid.ok (specs_cons direction_calc_one.ok (specs_cons interval_Square.ok (specs_cons direction_calc_add.ok (specs_cons direction_calc_div.ok (specs_cons direction_calc_sub.ok specs_nil))))))),inl_nil,mixed_ok,lps_nil⟩ 60 Tryz.func20 (by decide) rfl no_loops fun vs bl v bl' h=> ?_
 unfold direction_Of.sp at h
 split at h
 ·rename_i A2 A3 A5 A4
  simp only [Option.some.injEq,Prod.mk.injEq,true_and] at h
  obtain ⟨rfl,rfl⟩:=h
  refine ⟨?_,by simp [okV,Nat.blt],clo_spec 8 _ (by kernel_rfl),told_blk (by kernel_rfl)⟩
  refine (direction_Of.run direction_calc_box interval_Valid direction_calc_one_interval_Square interval_Square direction_calc_add direction_calc_div direction_calc_sub A2 A3 A5 A4).trans ?_
  refine (direction_Of.nat direction_calc_box interval_Valid direction_calc_one_interval_Square interval_Square direction_calc_add direction_calc_div direction_calc_sub A2 A3 A5 A4 _).trans ?_
  kernel_rfl
 ·cases h
section
variable {R:Type} (AR:Int→Int→(Bool)) (A2:Int) (A3:Int) (A8:Int) (A7:Int) (A6:Int) (A9:Int)
def direction_Valid.K (k:(Bool)→R):R:=
 let t0:=AR A2 A3
 bif t0 then
 let t1:=AR A8 A7
 bif t1 then
 let t2:=AR A6 A9
 k (t2) else k (false) else k (false)
theorem direction_Valid.run:xfn Tryz.prog ⟨[(65,interval_Valid.sp AR)],[],[]⟩ [] 60 Tryz.f49 [.agg ⟨[.int .i64 A2,.int .i64 A3,.int .i64 A8,.int .i64 A7,.int .i64 A6,.int .i64 A9]⟩] []=direction_Valid.K AR A2 A3 A8 A7 A6 A9 (fun r=>some (.bool r,[])):=by kernel_rfl
def direction_Valid:Bool:=direction_Valid.K interval_Valid A2 A3 A8 A7 A6 A9 id
theorem direction_Valid.nat (k:(Bool)→R):direction_Valid.K AR A2 A3 A8 A7 A6 A9 k=k (direction_Valid.K AR A2 A3 A8 A7 A6 A9 id):=by
 simp only [direction_Valid.K,acond k,id_eq]
theorem direction_Valid.eq (a0 a1 a2 a3 a4 a5:Int):direction_Valid a0 a1 a2 a3 a4 a5=VB ((a0,a1),(a2,a3),(a4,a5)):=by
 simp only [direction_Valid,direction_Valid.K,id_eq,interval_Valid.eq,VB,V2]
 cases V a0 a1<;>cases V a2 a3<;>cases V a4 a5<;>rfl
end
theorem direction_Valid.ok:SOK Tryz.prog 49 (direction_Valid.sp direction_Valid):=by
 refine sok_of (E:=⟨[(65,interval_Valid.sp interval_Valid)],[],[]⟩) (L:=[]) ⟨(specs_cons interval_Valid.ok specs_nil),inl_nil,mixed_ok,lps_nil⟩ 60 Tryz.func49 (by decide) rfl no_loops fun vs bl v bl' h=> ?_
 unfold direction_Valid.sp at h
 split at h
 ·rename_i A2 A3 A8 A7 A6 A9
  simp only [Option.some.injEq,Prod.mk.injEq,true_and] at h
  obtain ⟨rfl,rfl⟩:=h
  refine ⟨?_,by simp [okV,Nat.blt],clo_spec 8 _ (by kernel_rfl),told_blk (by kernel_rfl)⟩
  refine (direction_Valid.run interval_Valid A2 A3 A8 A7 A6 A9).trans ?_
  refine (direction_Valid.nat interval_Valid A2 A3 A8 A7 A6 A9 _).trans ?_
  kernel_rfl
 ·cases h
section
variable {R:Type} (s0_0:Int) (A5:Int) (A4:Int)
def direction_calc_result.K (k:Int×Int×Int×Int→R):R:=
 bif s0_0 !=0 then k (0,0,s0_0,s0_0) else k (A5,A4,0,s0_0)
theorem direction_calc_result.run:xfn Tryz.prog ⟨[],[],[]⟩ [] 60 Tryz.f71 [.pointer (some ⟨0,0,none⟩),.agg ⟨[.int .i64 A5,.int .i64 A4]⟩] [.cs [.int .i64 s0_0] 98]=direction_calc_result.K s0_0 A5 A4 (fun r=>some (.tuple ⟨[.agg ⟨[.int .i64 r.1,.int .i64 r.2.1]⟩,.int .i64 r.2.2.1]⟩,[.cs [.int .i64 r.2.2.2] 98])):=by kernel_rfl
def direction_calc_result:Int×Int×Int×Int:=direction_calc_result.K s0_0 A5 A4 id
theorem direction_calc_result.nat (k:Int×Int×Int×Int→R):direction_calc_result.K s0_0 A5 A4 k=k (direction_calc_result.K s0_0 A5 A4 id):=by
 simp only [direction_calc_result.K,acond k,id_eq]
end
theorem direction_calc_result.ok:SOK Tryz.prog 71 (direction_calc_result.sp direction_calc_result):=by
 refine sok_of (E:=⟨[],[],[]⟩) (L:=[]) ⟨specs_nil,inl_nil,mixed_ok,lps_nil⟩ 60 Tryz.func71 (by decide) rfl no_loops fun vs bl v bl' h=> ?_
 unfold direction_calc_result.sp at h
 split at h
 ·rename_i A5 A4 s0_0
  simp only [Option.some.injEq,Prod.mk.injEq,true_and] at h
  obtain ⟨rfl,rfl⟩:=h
  refine ⟨?_,by simp [okV,Nat.blt],clo_spec 8 _ (by kernel_rfl),told_blk (by kernel_rfl)⟩
  refine (direction_calc_result.run s0_0 A5 A4).trans ?_
  refine (direction_calc_result.nat s0_0 A5 A4 _).trans ?_
  kernel_rfl
 ·cases h
section
variable {R:Type} (EZ:Int→Int→Int→Int→Int→Int→(Bool)) (AP:Int→Int→Int→(Int×Int×Int)) (C8:Int→Int→(Int×Int×Int)) (BO:Int→Int→Int→Int→Int→(Int×Int×Int)) (D5:Int→Int→Int→(Int×Int×Int×Int)) (A2:Int) (A3:Int) (A8:Int) (A7:Int) (A6:Int) (A9:Int)
def direction_Norm2.K {R:Type} (EZ:Int→Int→Int→Int→Int→Int→(Bool)) (AP:Int→Int→Int→(Int×Int×Int)) (C8:Int→Int→(Int×Int×Int)) (BO:Int→Int→Int→Int→Int→(Int×Int×Int)) (D5:Int→Int→Int→(Int×Int×Int×Int)) (A2:Int) (A3:Int) (A8:Int) (A7:Int) (A6:Int) (A9:Int) (k:Int×Int×Int→R):R:=
 let t0:=EZ A2 A3 A8 A7 A6 A9
 bif !t0 then k (0,0,1) else
 let t1:=AP 0 A2 A3
 let t2:=AP t1.2.2 A8 A7
 let t3:=AP t2.2.2 A6 A9
 let t4:=BO t3.2.2 t1.1 t1.2.1 t2.1 t2.2.1
 let t5:=BO t4.2.2 t4.1 t4.2.1 t3.1 t3.2.1
 let t6:=D5 t5.2.2 t5.1 t5.2.1
 k (t6.1,t6.2.1,t6.2.2.1)
theorem direction_Norm2.run:xfn Tryz.prog ⟨[(49,direction_Valid.sp EZ),(66,direction_calc_one.sp AP),(67,interval_Square.sp C8),(68,direction_calc_add.sp BO),(71,direction_calc_result.sp D5)],[],[]⟩ [] 60 Tryz.f21 [.agg ⟨[.int .i64 A2,.int .i64 A3,.int .i64 A8,.int .i64 A7,.int .i64 A6,.int .i64 A9]⟩] []=direction_Norm2.K EZ AP C8 BO D5 A2 A3 A8 A7 A6 A9 (fun r=>some (.tuple ⟨[.agg ⟨[.int .i64 r.1,.int .i64 r.2.1]⟩,.int .i64 r.2.2]⟩,[])):=by kernel_rfl
def direction_Norm2:Int×Int×Int:=direction_Norm2.K direction_Valid direction_calc_one_interval_Square interval_Square direction_calc_add direction_calc_result A2 A3 A8 A7 A6 A9 id
theorem direction_Norm2.nat (k:Int×Int×Int→R):direction_Norm2.K EZ AP C8 BO D5 A2 A3 A8 A7 A6 A9 k=k (direction_Norm2.K EZ AP C8 BO D5 A2 A3 A8 A7 A6 A9 id):=by
 simp only [direction_Norm2.K,acond k,id_eq]
theorem direction_Norm2.eq (a0 a1 a2 a3 a4 a5:Int):direction_Norm2 a0 a1 a2 a3 a4 a5=o3 (dnorm ((a0,a1),(a2,a3),(a4,a5))):=by
 simp only [direction_Norm2,direction_Norm2.K,id_eq,direction_Valid.eq,direction_calc_one_interval_Square.eq,direction_calc_add.eq,direction_calc_result,direction_calc_result.K,id_eq,dnorm,sqR,addR]
 cases hV0:VB ((a0,a1),(a2,a3),(a4,a5)) with
 | false=>
  simp only [hV0,st0,kr0,st70,t3_ok,bind_ok,bind_er,o7,o3,o2,o11,V2_mk,kp0,cond_true,cond_false,Bool.not_true,Bool.not_false,Bool.false_and,Bool.and_false,Bool.true_and,Bool.and_true,bne_self_eq_false,beq_self_eq_true,if_true,if_false]
 | true=>
  rcases t3c (isq a0 a1) with ⟨x0,x1,h0⟩|⟨x0,x1,e0,n0,h0⟩
  ·simp only [hV0,h0,st0,kr0,st70,t3_ok,bind_ok,bind_er,o7,o3,o2,o11,V2_mk,kp0,cond_true,cond_false,Bool.not_true,Bool.not_false,Bool.false_and,Bool.and_false,Bool.true_and,Bool.and_true,bne_self_eq_false,beq_self_eq_true,if_true,if_false]
   rcases t3c (isq a2 a3) with ⟨y0,y1,h1⟩|⟨y0,y1,e1,n1,h1⟩
   ·simp only [h1,st0,kr0,st70,t3_ok,bind_ok,bind_er,o7,o3,o2,o11,V2_mk,kp0,cond_true,cond_false,Bool.not_true,Bool.not_false,Bool.false_and,Bool.and_false,Bool.true_and,Bool.and_true,bne_self_eq_false,beq_self_eq_true,if_true,if_false]
    rcases t3c (isq a4 a5) with ⟨z0,z1,h2⟩|⟨z0,z1,e2,n2,h2⟩
    ·simp only [h2,st0,kr0,st70,t3_ok,bind_ok,bind_er,o7,o3,o2,o11,V2_mk,kp0,cond_true,cond_false,Bool.not_true,Bool.not_false,Bool.false_and,Bool.and_false,Bool.true_and,Bool.and_true,bne_self_eq_false,beq_self_eq_true,if_true,if_false]
     rcases t3c (iadd x0 x1 y0 y1) with ⟨s0,s1,h3⟩|⟨s0,s1,e3,n3,h3⟩
     ·simp only [h3,st0,kr0,st70,t3_ok,bind_ok,bind_er,o7,o3,o2,o11,V2_mk,kp0,cond_true,cond_false,Bool.not_true,Bool.not_false,Bool.false_and,Bool.and_false,Bool.true_and,Bool.and_true,bne_self_eq_false,beq_self_eq_true,if_true,if_false]
      rcases t3c (iadd s0 s1 z0 z1) with ⟨t0,t1,h4⟩|⟨t0,t1,e4,n4,h4⟩
      ·simp only [h4,st0,kr0,st70,t3_ok,bind_ok,bind_er,o7,o3,o2,o11,V2_mk,kp0,cond_true,cond_false,Bool.not_true,Bool.not_false,Bool.false_and,Bool.and_false,Bool.true_and,Bool.and_true,bne_self_eq_false,beq_self_eq_true,if_true,if_false]
      ·simp only [h4,stE n4,krE n4,st7E n4,t3_er n4,bne_of n4,beq_of n4,kpn _ n4,st0,kr0,st70,t3_ok,bind_ok,bind_er,o7,o3,o2,o11,V2_mk,kp0,cond_true,cond_false,Bool.not_true,Bool.not_false,Bool.false_and,Bool.and_false,Bool.true_and,Bool.and_true,bne_self_eq_false,beq_self_eq_true,if_true,if_false]
     ·simp only [h3,stE n3,krE n3,st7E n3,t3_er n3,bne_of n3,beq_of n3,kpn _ n3,st0,kr0,st70,t3_ok,bind_ok,bind_er,o7,o3,o2,o11,V2_mk,kp0,cond_true,cond_false,Bool.not_true,Bool.not_false,Bool.false_and,Bool.and_false,Bool.true_and,Bool.and_true,bne_self_eq_false,beq_self_eq_true,if_true,if_false]
    ·simp only [h2,stE n2,krE n2,st7E n2,t3_er n2,bne_of n2,beq_of n2,kpn _ n2,st0,kr0,st70,t3_ok,bind_ok,bind_er,o7,o3,o2,o11,V2_mk,kp0,cond_true,cond_false,Bool.not_true,Bool.not_false,Bool.false_and,Bool.and_false,Bool.true_and,Bool.and_true,bne_self_eq_false,beq_self_eq_true,if_true,if_false]
   ·simp only [h1,stE n1,krE n1,st7E n1,t3_er n1,bne_of n1,beq_of n1,kpn _ n1,st0,kr0,st70,t3_ok,bind_ok,bind_er,o7,o3,o2,o11,V2_mk,kp0,cond_true,cond_false,Bool.not_true,Bool.not_false,Bool.false_and,Bool.and_false,Bool.true_and,Bool.and_true,bne_self_eq_false,beq_self_eq_true,if_true,if_false]
  ·simp only [hV0,h0,stE n0,krE n0,st7E n0,t3_er n0,bne_of n0,beq_of n0,kpn _ n0,st0,kr0,st70,t3_ok,bind_ok,bind_er,o7,o3,o2,o11,V2_mk,kp0,cond_true,cond_false,Bool.not_true,Bool.not_false,Bool.false_and,Bool.and_false,Bool.true_and,Bool.and_true,bne_self_eq_false,beq_self_eq_true,if_true,if_false]
end
theorem direction_Norm2.ok:SOK Tryz.prog 21 (direction_Norm2.sp direction_Norm2):=by
 refine sok_of (E:=⟨[(49,direction_Valid.sp direction_Valid),(66,direction_calc_one.sp direction_calc_one_interval_Square),(67,interval_Square.sp interval_Square),(68,direction_calc_add.sp direction_calc_add),(71,direction_calc_result.sp direction_calc_result)],[],[]⟩) (L:=[]) ⟨(specs_cons direction_Valid.ok (specs_cons direction_calc_one.ok (specs_cons interval_Square.ok (specs_cons direction_calc_add.ok (specs_cons direction_calc_result.ok specs_nil))))),inl_nil,mixed_ok,lps_nil⟩ 60 Tryz.func21 (by decide) rfl no_loops fun vs bl v bl' h=> ?_
 unfold direction_Norm2.sp at h
 split at h
 ·rename_i A2 A3 A8 A7 A6 A9
  simp only [Option.some.injEq,Prod.mk.injEq,true_and] at h
  obtain ⟨rfl,rfl⟩:=h
  refine ⟨?_,by simp [okV,Nat.blt],clo_spec 8 _ (by kernel_rfl),told_blk (by kernel_rfl)⟩
  refine (direction_Norm2.run direction_Valid direction_calc_one_interval_Square interval_Square direction_calc_add direction_calc_result A2 A3 A8 A7 A6 A9).trans ?_
  refine (direction_Norm2.nat direction_Valid direction_calc_one_interval_Square interval_Square direction_calc_add direction_calc_result A2 A3 A8 A7 A6 A9 _).trans ?_
  kernel_rfl
 ·cases h
section
variable {R:Type} (A2:Int) (A3:Int)
def culetlaw28_one.K (k:(Bool)→R):R:=
 bif decide (A2≤16777216) then k (decide (A3≥16777216)) else k (false)
theorem culetlaw28_one.run:xfn Tryz.prog ⟨[],[],[]⟩ [] 60 Tryz.f22 [.agg ⟨[.int .i64 A2,.int .i64 A3]⟩] []=culetlaw28_one.K A2 A3 (fun r=>some (.bool r,[])):=by kernel_rfl
def culetlaw28_one:Bool:=culetlaw28_one.K A2 A3 id
theorem culetlaw28_one.nat (k:(Bool)→R):culetlaw28_one.K A2 A3 k=k (culetlaw28_one.K A2 A3 id):=by
 simp only [culetlaw28_one.K,acond k,id_eq]
end
theorem culetlaw28_one.ok:SOK Tryz.prog 22 (culetlaw28_one.sp culetlaw28_one):=by
 refine sok_of (E:=⟨[],[],[]⟩) (L:=[]) ⟨specs_nil,inl_nil,mixed_ok,lps_nil⟩ 60 Tryz.func22 (by decide) rfl no_loops fun vs bl v bl' h=> ?_
 unfold culetlaw28_one.sp at h
 split at h
 ·rename_i A2 A3
  simp only [Option.some.injEq,Prod.mk.injEq,true_and] at h
  obtain ⟨rfl,rfl⟩:=h
  refine ⟨?_,by simp [okV,Nat.blt],clo_spec 8 _ (by kernel_rfl),told_blk (by kernel_rfl)⟩
  refine (culetlaw28_one.run A2 A3).trans ?_
  refine (culetlaw28_one.nat A2 A3 _).trans ?_
  kernel_rfl
 ·cases h
section
variable {R:Type} (F1:TF20 (Bool)) (F0:TF20 Bool) (E4:TF20 (Int×Int×Int×Int×Int×Int×Int)) (E3:TF20 Bool) (FN:Int→Int→Int→Int→(Int×Int×Int×Int×Int×Int×Int)) (E1:Int→Int→Int→Int→Int→Int→(Int×Int×Int)) (E2:Int→Int→(Bool)) (A2:Int) (A3:Int) (A5:Int) (A4:Int) (BF:Bool) (BE:ByteArray) (FJ:Bool) (FI:ByteArray) (FH:Bool) (FG:ByteArray) (FF:Bool) (FE:ByteArray) (FD:Bool) (FC:ByteArray) (EY:Bool) (EX:ByteArray) (EW:Bool) (EV:ByteArray) (EU:Bool) (ET:ByteArray) (ES:Bool) (ER:ByteArray) (EQ:Bool) (EP:ByteArray) (EO:Bool) (EN:ByteArray) (EM:Bool) (EL:ByteArray) (EK:Bool) (EJ:ByteArray) (EI:Bool) (EH:ByteArray) (EG:Bool) (EF:ByteArray) (EE:Bool) (ED:ByteArray) (EC:Bool) (EB:ByteArray) (EA:Bool) (E9:ByteArray) (E8:Bool) (E7:ByteArray) (E6:Bool) (E5:ByteArray)
noncomputable def culetlaw28_DirectionLength.K (k:(Bool)→Option R):Option R:=
 let t0:=FN A2 A3 A5 A4
 bif t0.2.2.2.2.2.2==0 then
 let t1:=E1 t0.1 t0.2.1 t0.2.2.1 t0.2.2.2.1 t0.2.2.2.2.1 t0.2.2.2.2.2.1
 let t2:=E2 t1.1 t1.2.1
 bif bif t1.2.2==0 then !t2 else false then k (false) else
 let t3:=F0 BF BE FJ FI FH FG FF FE FD FC EY EX EW EV EU ET ES ER EQ EP EO EN EM EL EK EJ EI EH EG EF EE ED EC EB EA E9 E8 E7 E6 E5
 bif t3 then
 let t4:=F1 BF BE FJ FI FH FG FF FE FD FC EY EX EW EV EU ET ES ER EQ EP EO EN EM EL EK EJ EI EH EG EF EE ED EC EB EA E9 E8 E7 E6 E5
 bif !t4 then k (true) else
 let t5:=E3 BF BE FJ FI FH FG FF FE FD FC EY EX EW EV EU ET ES ER EQ EP EO EN EM EL EK EJ EI EH EG EF EE ED EC EB EA E9 E8 E7 E6 E5
 bif t5 then
 let t6:=E4 BF BE FJ FI FH FG FF FE FD FC EY EX EW EV EU ET ES ER EQ EP EO EN EM EL EK EJ EI EH EG EF EE ED EC EB EA E9 E8 E7 E6 E5
 bif t6.2.2.2.2.2.2 !=0 then k (t6.2.2.2.2.2.2==1) else
 let t7:=E1 t6.1 t6.2.1 t6.2.2.1 t6.2.2.2.1 t6.2.2.2.2.1 t6.2.2.2.2.2.1
 let t8:=E2 t7.1 t7.2.1
 k (bif t7.2.2==0 then t8 else false) else none else none else
 let t9:=F0 BF BE FJ FI FH FG FF FE FD FC EY EX EW EV EU ET ES ER EQ EP EO EN EM EL EK EJ EI EH EG EF EE ED EC EB EA E9 E8 E7 E6 E5
 bif t9 then
 let t10:=F1 BF BE FJ FI FH FG FF FE FD FC EY EX EW EV EU ET ES ER EQ EP EO EN EM EL EK EJ EI EH EG EF EE ED EC EB EA E9 E8 E7 E6 E5
 bif !t10 then k (true) else
 let t11:=E3 BF BE FJ FI FH FG FF FE FD FC EY EX EW EV EU ET ES ER EQ EP EO EN EM EL EK EJ EI EH EG EF EE ED EC EB EA E9 E8 E7 E6 E5
 bif t11 then
 let t12:=E4 BF BE FJ FI FH FG FF FE FD FC EY EX EW EV EU ET ES ER EQ EP EO EN EM EL EK EJ EI EH EG EF EE ED EC EB EA E9 E8 E7 E6 E5
 bif t12.2.2.2.2.2.2 !=0 then k (t12.2.2.2.2.2.2==1) else
 let t13:=E1 t12.1 t12.2.1 t12.2.2.1 t12.2.2.2.1 t12.2.2.2.2.1 t12.2.2.2.2.2.1
 let t14:=E2 t13.1 t13.2.1
 k (bif t13.2.2==0 then t14 else false) else none else none
theorem culetlaw28_DirectionLength.run:xfn Tryz.prog ⟨[(10,culetlaw28_awake.sp),(10,culetlaw28_awake.sp),(11,culetlaw28_few.sp F1 F0),(18,direction_Normal.sp E4 E3),(20,direction_Of.sp FN),(21,direction_Norm2.sp E1),(22,culetlaw28_one.sp E2)],[],[]⟩ [] 60 Tryz.f4 [.agg ⟨[.int .i64 A2,.int .i64 A3]⟩,.agg ⟨[.int .i64 A5,.int .i64 A4]⟩,.agg ⟨.bool BF:: .string BE:: .bool FJ:: .string FI:: .bool FH:: .string FG:: .bool FF:: .string FE:: .bool FD:: .string FC:: .bool EY:: .string EX:: .bool EW:: .string EV:: .bool EU:: .string ET:: .bool ES:: .string ER:: .bool EQ:: .string EP:: .bool EO:: .string EN:: .bool EM:: .string EL:: .bool EK:: .string EJ:: .bool EI:: .string EH:: .bool EG:: .string EF:: .bool EE:: .string ED:: .bool EC:: .string EB:: .bool EA:: .string E9:: .bool E8:: .string E7:: .bool E6:: .string E5::[]⟩] []=culetlaw28_DirectionLength.K F1 F0 E4 E3 FN E1 E2 A2 A3 A5 A4 BF BE FJ FI FH FG FF FE FD FC EY EX EW EV EU ET ES ER EQ EP EO EN EM EL EK EJ EI EH EG EF EE ED EC EB EA E9 E8 E7 E6 E5 (fun r=>some (.bool r,[])):=by kernel_rfl
noncomputable def culetlaw28_DirectionLength.o:Option (Bool):=culetlaw28_DirectionLength.K culetlaw28_few culetlaw28_few.pre direction_Normal direction_Normal.pre direction_Of direction_Norm2 culetlaw28_one A2 A3 A5 A4 BF BE FJ FI FH FG FF FE FD FC EY EX EW EV EU ET ES ER EQ EP EO EN EM EL EK EJ EI EH EG EF EE ED EC EB EA E9 E8 E7 E6 E5 some
noncomputable def culetlaw28_DirectionLength:Bool:=(culetlaw28_DirectionLength.o A2 A3 A5 A4 BF BE FJ FI FH FG FF FE FD FC EY EX EW EV EU ET ES ER EQ EP EO EN EM EL EK EJ EI EH EG EF EE ED EC EB EA E9 E8 E7 E6 E5).getD default
theorem culetlaw28_DirectionLength.nat (k:(Bool)→Option R):culetlaw28_DirectionLength.K F1 F0 E4 E3 FN E1 E2 A2 A3 A5 A4 BF BE FJ FI FH FG FF FE FD FC EY EX EW EV EU ET ES ER EQ EP EO EN EM EL EK EJ EI EH EG EF EE ED EC EB EA E9 E8 E7 E6 E5 k=(culetlaw28_DirectionLength.K F1 F0 E4 E3 FN E1 E2 A2 A3 A5 A4 BF BE FJ FI FH FG FF FE FD FC EY EX EW EV EU ET ES ER EQ EP EO EN EM EL EK EJ EI EH EG EF EE ED EC EB EA E9 E8 E7 E6 E5 some).bind k:=by
 simp only [culetlaw28_DirectionLength.K,bcond,Option.bind_some,Option.bind_none]
end
theorem adec2 {p q:Prop} {_:Decidable p} {_:Decidable q} (hp:p) (hq:q):(decide p&&decide q)=true:=by simp [hp,hq]
theorem ndec2 {p q:Prop} {_:Decidable p} {_:Decidable q} (hp:p) (hq:q):(!(decide p&&decide q))=false:=by simp [hp,hq]
theorem culetlaw28_one.eq (a b:Int):culetlaw28_one a b=(decide (a≤16777216)&&decide (16777216≤b)):=by
 simp only [culetlaw28_one,culetlaw28_one.K,id_eq]
 cases decide (a≤16777216)<;>rfl
theorem dof_norm {U V:I2} {d:Bx} {n:I2} (h:dof U V= .ok d) (h':dnorm d= .ok n):n.1≤16777216∧16777216≤n.2:=by
 unfold dof at h
 obtain ⟨hU,h⟩:=cond_inv rfl h
 obtain ⟨hV,h⟩:=cond_inv rfl h
 obtain ⟨P,hP,h⟩:=bind_inv h
 obtain ⟨Q,hQ,h⟩:=bind_inv h
 obtain ⟨S,hS,h⟩:=bind_inv h
 obtain ⟨W,hW,h⟩:=bind_inv h
 obtain ⟨x2,hx2,h⟩:=bind_inv h
 obtain ⟨X,hX,h⟩:=bind_inv h
 obtain ⟨y2,hy2,h⟩:=bind_inv h
 obtain ⟨Y,hY,h⟩:=bind_inv h
 obtain ⟨z2,hz2,h⟩:=bind_inv h
 obtain ⟨Z,hZ,h⟩:=bind_inv h
 injection h with h
 subst h
 unfold dnorm at h'
 obtain ⟨_,h'⟩:=cond_inv rfl h'
 obtain ⟨A,hA,h'⟩:=bind_inv h'
 obtain ⟨B,hB,h'⟩:=bind_inv h'
 obtain ⟨C,hC,h'⟩:=bind_inv h'
 obtain ⟨D,hD,h'⟩:=bind_inv h'
 have pu:=Pt.int hU
 have pv:=Pt.int hV
 generalize hu0:U.1=u at pu
 generalize hv0:V.1=v at pv
 have pP:=sqR_pt (by decide) pu hP
 have pQ:=sqR_pt (by decide) pv hQ
 have pS:=addR_pt pP pQ hS
 have pO:Pt 281474976710656 (16777216*(1*1)) one2:=⟨by decide,by decide⟩
 have pW:=addR_pt pO pS hW
 have pZ:=subR_pt pS pO hz2
 have hu2:=sq_nonneg u
 have hv2:=sq_nonneg v
 generalize ht:u*u+v*v=t at*
 have hw:0<281474976710656+t:=by omega
 generalize hw0:281474976710656+t=w at*
 have pX:=divR_pt (by decide) (by decide) hw (addR_pt pu pu hx2) pW hX
 have pY:=divR_pt (by decide) (by decide) hw (addR_pt pv pv hy2) pW hY
 have pZ:=divR_pt (by decide) (by decide) hw pZ pW hZ
 have hMw:0<16777216*(1*1)*w:=by omega
 have pA:=(sqR_pt (by omega) pX hA).scale (show (0:Int)≤281474976710656 by decide)
 have pB:=(sqR_pt (by omega) pY hB).scale (show (0:Int)≤281474976710656 by decide)
 have pC:=sqR_pt hMw pZ hC
 have eQ:16777216*(1*w*(1*w))*281474976710656=16777216*(16777216*(1*1)*w*(16777216*(1*1)*w)):=by grind
 have pD:=addR_pt (pA.cast rfl eQ) (pB.cast rfl eQ) hD
 have pN:=addR_pt pD pC h'
 have hww:0<w*w:=Int.mul_pos hw hw
 have eN:(u+u)*16777216*(16777216*(1*1))*((u+u)*16777216*(16777216*(1*1)))*281474976710656+(v+v)*16777216*(16777216*(1*1))*((v+v)*16777216*(16777216*(1*1)))*281474976710656+(t-281474976710656)*16777216*(16777216*(1*1))*((t-281474976710656)*16777216*(16777216*(1*1)))=16777216*(16777216*(16777216*(1*1)*w*(16777216*(1*1)*w))):=by
  rw [←hw0,←ht]
  grind
 have pN:=pN.cast eN rfl
 have hQ:0<16777216*(16777216*(1*1)*w*(16777216*(1*1)*w)):=by
  have:16777216*(16777216*(1*1)*w*(16777216*(1*1)*w))=4722366482869645213696*(w*w):=by grind
  omega
 exact ⟨Int.le_of_mul_le_mul_right pN.lo hQ,Int.le_of_mul_le_mul_right pN.hi hQ⟩
theorem isq_nh {n h:Int} (h0:0≤n) (h1:n≤h) (h2:h≤16777216):isq n h=(n*n/16777216,cl (h*h) 16777216,0):=by
 have hn:n*n≤h*h:=sq_mono (by omega) h1
 have hh:h*h≤16777216*16777216:=sq_mono (by omega) h2
 have e1:(if n≤0∧0≤h then 0 else min (n*n) (h*h))=n*n:=by
  split
  ·have:n=0:=by omega
   subst this; rfl
  ·omega
 have e2:max (n*n) (h*h)=h*h:=by omega
 have hp:=sq_nonneg n
 unfold isq
 rw [show V n h=true from V_iff.2 ⟨by omega,h1,by omega⟩,cond_true,e1,e2]
 have l1:0≤n*n/16777216:=by omega
 have l2:cl (h*h) 16777216≤16777216:=by unfold cl; omega
 have l3:n*n/16777216≤cl (h*h) 16777216:=by unfold cl; omega
 exact chk_of (by omega) l3 (by omega)
theorem sgb_sq {s:Bool} {n h:Int} (h0:0≤n) (h1:n≤h) (h2:h≤16777216):isq (sgb s n h).1 (sgb s n h).2=(n*n/16777216,cl (h*h) 16777216,0)∧V (sgb s n h).1 (sgb s n h).2=true:=by
 cases s with
 |false=>exact ⟨isq_nh h0 h1 h2,V_iff.2 ⟨by show -1073741824≤n; omega,h1,by show h≤1073741824; omega⟩⟩
 |true=>exact ⟨(isq_neg n h).trans (isq_nh h0 h1 h2),V_iff.2 ⟨by show -1073741824≤ -h; omega,by show -h≤ -n; omega,by show -n≤1073741824; omega⟩⟩
theorem unit_norm {s0 s1 s2:Bool} {n0 h0 n1 h1 n2 h2:Int} (c0:0≤n0∧n0≤h0∧h0≤16777216) (c1:0≤n1∧n1≤h1∧h1≤16777216) (c2:0≤n2∧n2≤h2∧h2≤16777216) (l:n0*n0+n1*n1+n2*n2≤KK) (u:KK≤h0*h0+h1*h1+h2*h2):
  ∃n:I2,dnorm (sgb s0 n0 h0,sgb s1 n1 h1,sgb s2 n2 h2)= .ok n∧n.1≤16777216∧16777216≤n.2:=by
 obtain ⟨e0,v0⟩:=sgb_sq (s:=s0) c0.1 c0.2.1 c0.2.2
 obtain ⟨e1,v1⟩:=sgb_sq (s:=s1) c1.1 c1.2.1 c1.2.2
 obtain ⟨e2,v2⟩:=sgb_sq (s:=s2) c2.1 c2.2.1 c2.2.2
 have r:∀ {n h:Int},0≤n→n≤h→h≤16777216→0≤n*n/16777216∧n*n/16777216≤cl (h*h) 16777216∧cl (h*h) 16777216≤16777216∧n*n/16777216*16777216≤n*n∧h*h≤cl (h*h) 16777216*16777216:=fun {n h} a b c=>by
  have hn:n*n≤h*h:=sq_mono (by omega) b
  have hh:h*h≤16777216*16777216:=sq_mono (by omega) c
  have hp:=sq_nonneg n
  unfold cl
  omega
 have r0:=r c0.1 c0.2.1 c0.2.2
 have r1:=r c1.1 c1.2.1 c1.2.2
 have r2:=r c2.1 c2.2.1 c2.2.2
 generalize n0*n0/16777216=a0 at*
 generalize n1*n1/16777216=a1 at*
 generalize n2*n2/16777216=a2 at*
 generalize cl (h0*h0) 16777216=b0 at*
 generalize cl (h1*h1) 16777216=b1 at*
 generalize cl (h2*h2) 16777216=b2 at*
 generalize n0*n0=p0 at*
 generalize n1*n1=p1 at*
 generalize n2*n2=p2 at*
 generalize h0*h0=q0 at*
 generalize h1*h1=q1 at*
 generalize h2*h2=q2 at*
 have g0:sqR (sgb s0 n0 h0)= .ok (a0,b0):=by unfold sqR; rw [e0]; rfl
 have g1:sqR (sgb s1 n1 h1)= .ok (a1,b1):=by unfold sqR; rw [e1]; rfl
 have g2:sqR (sgb s2 n2 h2)= .ok (a2,b2):=by unfold sqR; rw [e2]; rfl
 have ad:∀ {x y z w:Int},0≤x→x≤y→y≤33554432→0≤z→z≤w→w≤16777216→addR (x,y) (z,w)= .ok (x+z,y+w):=fun {x y z w} k1 k2 k3 k4 k5 k6=>by
  unfold addR iadd
  rw [show V (x,y).1 (x,y).2=true from V_iff.2 ⟨by show -1073741824≤x; omega,k2,by show y≤1073741824; omega⟩,show V (z,w).1 (z,w).2=true from V_iff.2 ⟨by show -1073741824≤z; omega,k5,by show w≤1073741824; omega⟩]
  rw [Bool.and_self,cond_true,chk_of (by show -1073741824≤x+z; omega) (by show x+z≤y+w; omega) (by show y+w≤1073741824; omega)]
  rfl
 refine ⟨(a0+a1+a2,b0+b1+b2),?_,?_,?_⟩
 ·unfold dnorm VB V2
  rw [v0,v1,v2]
  simp only [Bool.and_self,cond_true]
  rw [g0,bind_ok,g1,bind_ok,g2,bind_ok,ad (by omega) (by omega) (by omega) (by omega) (by omega) (by omega),bind_ok,ad (by omega) (by omega) (by omega) (by omega) (by omega) (by omega)]
 ·show a0+a1+a2≤16777216
  unfold KK at l; omega
 ·show 16777216≤b0+b1+b2
  unfold KK at u; omega
theorem DirectionLength.law (a0 a1 b0 b1:Int) (n0:Bool) (s0:ByteArray) (n1:Bool) (s1:ByteArray) (n2:Bool) (s2:ByteArray) (n3:Bool) (s3:ByteArray) (n4:Bool) (s4:ByteArray) (n5:Bool) (s5:ByteArray) (n6:Bool) (s6:ByteArray) (n7:Bool) (s7:ByteArray) (n8:Bool) (s8:ByteArray) (n9:Bool) (s9:ByteArray) (n10:Bool) (s10:ByteArray) (n11:Bool) (s11:ByteArray) (n12:Bool) (s12:ByteArray) (n13:Bool) (s13:ByteArray) (n14:Bool) (s14:ByteArray) (n15:Bool) (s15:ByteArray) (n16:Bool) (s16:ByteArray) (n17:Bool) (s17:ByteArray) (n18:Bool) (s18:ByteArray) (n19:Bool) (s19:ByteArray) (z0:s0.size≤8589934592) (z1:s1.size≤8589934592) (z2:s2.size≤8589934592) (z3:s3.size≤8589934592) (z4:s4.size≤8589934592) (z5:s5.size≤8589934592) (z6:s6.size≤8589934592) (z7:s7.size≤8589934592) (z8:s8.size≤8589934592) (z9:s9.size≤8589934592) (z10:s10.size≤8589934592) (z11:s11.size≤8589934592) (z12:s12.size≤8589934592) (z13:s13.size≤8589934592) (z14:s14.size≤8589934592) (z15:s15.size≤8589934592) (z16:s16.size≤8589934592) (z17:s17.size≤8589934592) (z18:s18.size≤8589934592) (z19:s19.size≤8589934592):culetlaw28_DirectionLength.o a0 a1 b0 b1 n0 s0 n1 s1 n2 s2 n3 s3 n4 s4 n5 s5 n6 s6 n7 s7 n8 s8 n9 s9 n10 s10 n11 s11 n12 s12 n13 s13 n14 s14 n15 s15 n16 s16 n17 s17 n18 s18 n19 s19=some true:=by
 obtain ⟨b,eb,hb⟩:=culetlaw28_few.spec n0 s0 n1 s1 n2 s2 n3 s3 n4 s4 n5 s5 n6 s6 n7 s7 n8 s8 n9 s9 n10 s10 n11 s11 n12 s12 n13 s13 n14 s14 n15 s15 n16 s16 n17 s17 n18 s18 n19 s19 z0 z1 z2 z3 z4 z5 z6 z7 z8 z9 z10 z11 z12 z13 z14 z15 z16 z17 z18 z19
 have p1:culetlaw28_few.pre n0 s0 n1 s1 n2 s2 n3 s3 n4 s4 n5 s5 n6 s6 n7 s7 n8 s8 n9 s9 n10 s10 n11 s11 n12 s12 n13 s13 n14 s14 n15 s15 n16 s16 n17 s17 n18 s18 n19 s19=true:=isSome_of eb
 have v1:culetlaw28_few n0 s0 n1 s1 n2 s2 n3 s3 n4 s4 n5 s5 n6 s6 n7 s7 n8 s8 n9 s9 n10 s10 n11 s11 n12 s12 n13 s13 n14 s14 n15 s15 n16 s16 n17 s17 n18 s18 n19 s19=b:=getD_of eb
 have part1:(bif (o7 (dof (a0,a1) (b0,b1))).2.2.2.2.2.2==0 then (bif (o3 (dnorm (((o7 (dof (a0,a1) (b0,b1))).1,(o7 (dof (a0,a1) (b0,b1))).2.1),((o7 (dof (a0,a1) (b0,b1))).2.2.1,(o7 (dof (a0,a1) (b0,b1))).2.2.2.1),((o7 (dof (a0,a1) (b0,b1))).2.2.2.2.1,(o7 (dof (a0,a1) (b0,b1))).2.2.2.2.2.1)))).2.2==0 then !(decide ((o3 (dnorm (((o7 (dof (a0,a1) (b0,b1))).1,(o7 (dof (a0,a1) (b0,b1))).2.1),((o7 (dof (a0,a1) (b0,b1))).2.2.1,(o7 (dof (a0,a1) (b0,b1))).2.2.2.1),((o7 (dof (a0,a1) (b0,b1))).2.2.2.2.1,(o7 (dof (a0,a1) (b0,b1))).2.2.2.2.2.1)))).1≤16777216)&&decide (16777216≤(o3 (dnorm (((o7 (dof (a0,a1) (b0,b1))).1,(o7 (dof (a0,a1) (b0,b1))).2.1),((o7 (dof (a0,a1) (b0,b1))).2.2.1,(o7 (dof (a0,a1) (b0,b1))).2.2.2.1),((o7 (dof (a0,a1) (b0,b1))).2.2.2.2.1,(o7 (dof (a0,a1) (b0,b1))).2.2.2.2.2.1)))).2.1)) else false) else false)=false:=by
  rcases (dof_nz (a0,a1) (b0,b1)).cases with ⟨d,e⟩|⟨e,he,e'⟩
  ·rw [e]
   simp only [o7,beq_self_eq_true,cond_true]
   change (bif (o3 (dnorm d)).2.2==0 then !(decide ((o3 (dnorm d)).1≤16777216)&&decide (16777216≤(o3 (dnorm d)).2.1)) else false)=false
   rcases (dnorm_nz d).cases with ⟨n,en⟩|⟨e2,he2,e2'⟩
   ·rw [en]
    obtain ⟨g1,g2⟩:=dof_norm e en
    simp only [o3,beq_self_eq_true,cond_true]
    exact ndec2 g1 g2
   ·rw [e2']
    simp only [o3,beq_of he2,cond_false]
  ·rw [e']
   simp only [o7,beq_of he,cond_false]
 simp only [culetlaw28_DirectionLength.o,culetlaw28_DirectionLength.K,direction_Of.eq,direction_Norm2.eq,culetlaw28_one.eq,p1,v1,cond_true]
 have rest:(bif !b then some true else bif direction_Normal.pre n0 s0 n1 s1 n2 s2 n3 s3 n4 s4 n5 s5 n6 s6 n7 s7 n8 s8 n9 s9 n10 s10 n11 s11 n12 s12 n13 s13 n14 s14 n15 s15 n16 s16 n17 s17 n18 s18 n19 s19 then bif (direction_Normal n0 s0 n1 s1 n2 s2 n3 s3 n4 s4 n5 s5 n6 s6 n7 s7 n8 s8 n9 s9 n10 s10 n11 s11 n12 s12 n13 s13 n14 s14 n15 s15 n16 s16 n17 s17 n18 s18 n19 s19).2.2.2.2.2.2 !=0 then some ((direction_Normal n0 s0 n1 s1 n2 s2 n3 s3 n4 s4 n5 s5 n6 s6 n7 s7 n8 s8 n9 s9 n10 s10 n11 s11 n12 s12 n13 s13 n14 s14 n15 s15 n16 s16 n17 s17 n18 s18 n19 s19).2.2.2.2.2.2==1) else some (bif (o3 (dnorm (((direction_Normal n0 s0 n1 s1 n2 s2 n3 s3 n4 s4 n5 s5 n6 s6 n7 s7 n8 s8 n9 s9 n10 s10 n11 s11 n12 s12 n13 s13 n14 s14 n15 s15 n16 s16 n17 s17 n18 s18 n19 s19).1,(direction_Normal n0 s0 n1 s1 n2 s2 n3 s3 n4 s4 n5 s5 n6 s6 n7 s7 n8 s8 n9 s9 n10 s10 n11 s11 n12 s12 n13 s13 n14 s14 n15 s15 n16 s16 n17 s17 n18 s18 n19 s19).2.1),((direction_Normal n0 s0 n1 s1 n2 s2 n3 s3 n4 s4 n5 s5 n6 s6 n7 s7 n8 s8 n9 s9 n10 s10 n11 s11 n12 s12 n13 s13 n14 s14 n15 s15 n16 s16 n17 s17 n18 s18 n19 s19).2.2.1,(direction_Normal n0 s0 n1 s1 n2 s2 n3 s3 n4 s4 n5 s5 n6 s6 n7 s7 n8 s8 n9 s9 n10 s10 n11 s11 n12 s12 n13 s13 n14 s14 n15 s15 n16 s16 n17 s17 n18 s18 n19 s19).2.2.2.1),((direction_Normal n0 s0 n1 s1 n2 s2 n3 s3 n4 s4 n5 s5 n6 s6 n7 s7 n8 s8 n9 s9 n10 s10 n11 s11 n12 s12 n13 s13 n14 s14 n15 s15 n16 s16 n17 s17 n18 s18 n19 s19).2.2.2.2.1,(direction_Normal n0 s0 n1 s1 n2 s2 n3 s3 n4 s4 n5 s5 n6 s6 n7 s7 n8 s8 n9 s9 n10 s10 n11 s11 n12 s12 n13 s13 n14 s14 n15 s15 n16 s16 n17 s17 n18 s18 n19 s19).2.2.2.2.2.1)))).2.2==0 then decide ((o3 (dnorm (((direction_Normal n0 s0 n1 s1 n2 s2 n3 s3 n4 s4 n5 s5 n6 s6 n7 s7 n8 s8 n9 s9 n10 s10 n11 s11 n12 s12 n13 s13 n14 s14 n15 s15 n16 s16 n17 s17 n18 s18 n19 s19).1,(direction_Normal n0 s0 n1 s1 n2 s2 n3 s3 n4 s4 n5 s5 n6 s6 n7 s7 n8 s8 n9 s9 n10 s10 n11 s11 n12 s12 n13 s13 n14 s14 n15 s15 n16 s16 n17 s17 n18 s18 n19 s19).2.1),((direction_Normal n0 s0 n1 s1 n2 s2 n3 s3 n4 s4 n5 s5 n6 s6 n7 s7 n8 s8 n9 s9 n10 s10 n11 s11 n12 s12 n13 s13 n14 s14 n15 s15 n16 s16 n17 s17 n18 s18 n19 s19).2.2.1,(direction_Normal n0 s0 n1 s1 n2 s2 n3 s3 n4 s4 n5 s5 n6 s6 n7 s7 n8 s8 n9 s9 n10 s10 n11 s11 n12 s12 n13 s13 n14 s14 n15 s15 n16 s16 n17 s17 n18 s18 n19 s19).2.2.2.1),((direction_Normal n0 s0 n1 s1 n2 s2 n3 s3 n4 s4 n5 s5 n6 s6 n7 s7 n8 s8 n9 s9 n10 s10 n11 s11 n12 s12 n13 s13 n14 s14 n15 s15 n16 s16 n17 s17 n18 s18 n19 s19).2.2.2.2.1,(direction_Normal n0 s0 n1 s1 n2 s2 n3 s3 n4 s4 n5 s5 n6 s6 n7 s7 n8 s8 n9 s9 n10 s10 n11 s11 n12 s12 n13 s13 n14 s14 n15 s15 n16 s16 n17 s17 n18 s18 n19 s19).2.2.2.2.2.1)))).1≤16777216)&&decide (16777216≤(o3 (dnorm (((direction_Normal n0 s0 n1 s1 n2 s2 n3 s3 n4 s4 n5 s5 n6 s6 n7 s7 n8 s8 n9 s9 n10 s10 n11 s11 n12 s12 n13 s13 n14 s14 n15 s15 n16 s16 n17 s17 n18 s18 n19 s19).1,(direction_Normal n0 s0 n1 s1 n2 s2 n3 s3 n4 s4 n5 s5 n6 s6 n7 s7 n8 s8 n9 s9 n10 s10 n11 s11 n12 s12 n13 s13 n14 s14 n15 s15 n16 s16 n17 s17 n18 s18 n19 s19).2.1),((direction_Normal n0 s0 n1 s1 n2 s2 n3 s3 n4 s4 n5 s5 n6 s6 n7 s7 n8 s8 n9 s9 n10 s10 n11 s11 n12 s12 n13 s13 n14 s14 n15 s15 n16 s16 n17 s17 n18 s18 n19 s19).2.2.1,(direction_Normal n0 s0 n1 s1 n2 s2 n3 s3 n4 s4 n5 s5 n6 s6 n7 s7 n8 s8 n9 s9 n10 s10 n11 s11 n12 s12 n13 s13 n14 s14 n15 s15 n16 s16 n17 s17 n18 s18 n19 s19).2.2.2.1),((direction_Normal n0 s0 n1 s1 n2 s2 n3 s3 n4 s4 n5 s5 n6 s6 n7 s7 n8 s8 n9 s9 n10 s10 n11 s11 n12 s12 n13 s13 n14 s14 n15 s15 n16 s16 n17 s17 n18 s18 n19 s19).2.2.2.2.1,(direction_Normal n0 s0 n1 s1 n2 s2 n3 s3 n4 s4 n5 s5 n6 s6 n7 s7 n8 s8 n9 s9 n10 s10 n11 s11 n12 s12 n13 s13 n14 s14 n15 s15 n16 s16 n17 s17 n18 s18 n19 s19).2.2.2.2.2.1)))).2.1) else false) else none)=some true:=by
  cases b with
  |false=>rfl
  | true=>
   obtain ⟨x,y,z,q,ex,ey,ez,eq,ox,oy,oz,oq,bx,by',bz,bq⟩:=hb rfl
   simp only [C5,Prod.mk.injEq] at ex ey ez eq
   obtain ⟨rfl,rfl,rfl,rfl,rfl,rfl,rfl,rfl,rfl,rfl⟩:=ex
   obtain ⟨rfl,rfl,rfl,rfl,rfl,rfl,rfl,rfl,rfl,rfl⟩:=ey
   obtain ⟨rfl,rfl,rfl,rfl,rfl,rfl,rfl,rfl,rfl,rfl⟩:=ez
   obtain ⟨rfl,rfl,rfl,rfl,rfl,rfl,rfl,rfl,rfl,rfl⟩:=eq
   simp only [Bool.not_true,cond_false,direction_Normal.ps bx by' bz bq (by omega) ox oy oz oq,direction_Normal.es bx by' bz bq (by omega) ox oy oz oq,cond_true]
   cases hn:(x.nul&&(y.nul&&z.nul)) with
   |true=>rfl
   | false=>
    obtain ⟨n0,h0,n1,h1,n2,h2,c0,c1,c2,l,u,q0,q1,q2⟩:=normal_box ox oy oz hn
    obtain ⟨n,en,g1,g2⟩:=unit_norm (s0:=decide (x.sg<0)) (s1:=decide (y.sg<0)) (s2:=decide (z.sg<0)) c0 c1 c2 l u
    simp only [cond_false,q0,q1,q2,bne_self_eq_false]
    change some (bif (o3 (dnorm (sgb (decide (x.sg<0)) n0 h0,sgb (decide (y.sg<0)) n1 h1,sgb (decide (z.sg<0)) n2 h2))).2.2==0 then decide ((o3 (dnorm (sgb (decide (x.sg<0)) n0 h0,sgb (decide (y.sg<0)) n1 h1,sgb (decide (z.sg<0)) n2 h2))).1≤16777216)&&decide (16777216≤(o3 (dnorm (sgb (decide (x.sg<0)) n0 h0,sgb (decide (y.sg<0)) n1 h1,sgb (decide (z.sg<0)) n2 h2))).2.1) else false)=some true
    rw [en]
    simp only [o3,beq_self_eq_true,cond_true]
    exact congrArg some (adec2 g1 g2)
 revert part1
 generalize (o7 (dof (a0,a1) (b0,b1)))=t
 intro part1
 cases ht:t.2.2.2.2.2.2==0 with
 |false=>exact rest
 | true=>
  rw [ht,cond_true] at part1
  simp only [cond_true,part1,cond_false]
  exact rest
theorem culetlaw28_DirectionLength.calls (A2:Int) (A3:Int) (A5:Int) (A4:Int) (BF:Bool) (BE:ByteArray) (FJ:Bool) (FI:ByteArray) (FH:Bool) (FG:ByteArray) (FF:Bool) (FE:ByteArray) (FD:Bool) (FC:ByteArray) (EY:Bool) (EX:ByteArray) (EW:Bool) (EV:ByteArray) (EU:Bool) (ET:ByteArray) (ES:Bool) (ER:ByteArray) (EQ:Bool) (EP:ByteArray) (EO:Bool) (EN:ByteArray) (EM:Bool) (EL:ByteArray) (EK:Bool) (EJ:ByteArray) (EI:Bool) (EH:ByteArray) (EG:Bool) (EF:ByteArray) (EE:Bool) (ED:ByteArray) (EC:Bool) (EB:ByteArray) (EA:Bool) (E9:ByteArray) (E8:Bool) (E7:ByteArray) (E6:Bool) (E5:ByteArray) (h:culetlaw28_DirectionLength.o A2 A3 A5 A4 BF BE FJ FI FH FG FF FE FD FC EY EX EW EV EU ET ES ER EQ EP EO EN EM EL EK EJ EI EH EG EF EE ED EC EB EA E9 E8 E7 E6 E5=some true) (w:World) (ht:TabOk w):Calls Tryz.prog 4 ⟨[.agg ⟨[.int .i64 A2,.int .i64 A3]⟩,.agg ⟨[.int .i64 A5,.int .i64 A4]⟩,.agg ⟨.bool BF:: .string BE:: .bool FJ:: .string FI:: .bool FH:: .string FG:: .bool FF:: .string FE:: .bool FD:: .string FC:: .bool EY:: .string EX:: .bool EW:: .string EV:: .bool EU:: .string ET:: .bool ES:: .string ER:: .bool EQ:: .string EP:: .bool EO:: .string EN:: .bool EM:: .string EL:: .bool EK:: .string EJ:: .bool EI:: .string EH:: .bool EG:: .string EF:: .bool EE:: .string ED:: .bool EC:: .string EB:: .bool EA:: .string E9:: .bool E8:: .string E7:: .bool E6:: .string E5::[]⟩]⟩ w fun e w'=>e= .returned (.bool true)∧Below w.heap.size w w':=by
 refine calls_run (E:=⟨[(10,culetlaw28_awake.sp),(10,culetlaw28_awake.sp),(11,culetlaw28_few.sp culetlaw28_few culetlaw28_few.pre),(18,direction_Normal.sp direction_Normal direction_Normal.pre),(20,direction_Of.sp direction_Of),(21,direction_Norm2.sp direction_Norm2),(22,culetlaw28_one.sp culetlaw28_one)],[],[]⟩) (L:=[]) ⟨(specs_cons culetlaw28_awake.ok (specs_cons culetlaw28_awake.ok (specs_cons culetlaw28_few.ok (specs_cons direction_Normal.ok (specs_cons direction_Of.ok (specs_cons direction_Norm2.ok (specs_cons culetlaw28_one.ok specs_nil))))))),inl_nil,mixed_ok,lps_nil⟩ 60 Tryz.func4 (by decide) rfl no_loops (vs:=[.agg ⟨[.int .i64 A2,.int .i64 A3]⟩,.agg ⟨[.int .i64 A5,.int .i64 A4]⟩,.agg ⟨.bool BF:: .string BE:: .bool FJ:: .string FI:: .bool FH:: .string FG:: .bool FF:: .string FE:: .bool FD:: .string FC:: .bool EY:: .string EX:: .bool EW:: .string EV:: .bool EU:: .string ET:: .bool ES:: .string ER:: .bool EQ:: .string EP:: .bool EO:: .string EN:: .bool EM:: .string EL:: .bool EK:: .string EJ:: .bool EI:: .string EH:: .bool EG:: .string EF:: .bool EE:: .string ED:: .bool EC:: .string EB:: .bool EA:: .string E9:: .bool E8:: .string E7:: .bool E6:: .string E5::[]⟩]) (v:= .bool true) ?_ (by simp [okV,Nat.blt]) (clo_spec 8 _ rfl) w ht
 refine (culetlaw28_DirectionLength.run culetlaw28_few culetlaw28_few.pre direction_Normal direction_Normal.pre direction_Of direction_Norm2 culetlaw28_one A2 A3 A5 A4 BF BE FJ FI FH FG FF FE FD FC EY EX EW EV EU ET ES ER EQ EP EO EN EM EL EK EJ EI EH EG EF EE ED EC EB EA E9 E8 E7 E6 E5).trans ?_
 rw [culetlaw28_DirectionLength.nat]
 have h4:culetlaw28_DirectionLength.K culetlaw28_few culetlaw28_few.pre direction_Normal direction_Normal.pre direction_Of direction_Norm2 culetlaw28_one A2 A3 A5 A4 BF BE FJ FI FH FG FF FE FD FC EY EX EW EV EU ET ES ER EQ EP EO EN EM EL EK EJ EI EH EG EF EE ED EC EB EA E9 E8 E7 E6 E5 some=some true:=h
 rw [h4]
 rfl
end Go.Proofs.YtpejalpgficopaaGreatDoor.G
end
