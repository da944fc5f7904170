/- A part of what the law's proof leans on. PACKED BY pack.py of this repo. -/
import Derived.Test.YtpejalpgficopaaGreatDoorR12
section
namespace Go.Proofs.YtpejalpgficopaaGreatDoor.G
open Go Go.Proofs Go.RowKit RX
set_option linter.unusedVariables false
set_option linter.unusedSimpArgs false
def interval_Valid.K {R:Type} (a0_0:Int) (a0_1:Int) (k:(Bool)→R):R:=
 bif decide (a0_0≤a0_1) then bif decide (a0_0≥ -1073741824) then k (decide (a0_1≤1073741824)) else k (false) else k (false)
set_option maxRecDepth 100000 in
theorem interval_Valid.run (a0_0:Int) (a0_1:Int):xfn Tryz.prog ⟨[],[],[]⟩ [] 40 Tryz.f65 [.agg ⟨[.int .i64 a0_0,.int .i64 a0_1]⟩] []=interval_Valid.K a0_0 a0_1 (fun r=>some (.bool r,[])):=by kernel_rfl
def interval_Valid (a0_0:Int) (a0_1:Int):Bool:=interval_Valid.K a0_0 a0_1 id
theorem interval_Valid.nat {R:Type} (a0_0:Int) (a0_1:Int) (k:(Bool)→R):interval_Valid.K a0_0 a0_1 k=k (interval_Valid.K a0_0 a0_1 id):=by
  simp only [interval_Valid.K,acond k,id_eq]
theorem interval_Valid.eq (a b:Int):interval_Valid a b=V a b:=by
  simp only [interval_Valid,interval_Valid.K,id_eq,V]
  by_cases h1:a≤b<;>by_cases h2:a≥ -1073741824<;>by_cases h3:b≤1073741824<;>simp [h1,h2,h3]<;>omega
theorem interval_Valid.ok:SOK Tryz.prog 65 (interval_Valid.sp interval_Valid):=by
  refine sok_of (E:=⟨[],[],[]⟩) (L:=[]) ⟨specs_nil,inl_nil,mixed_ok,lps_nil⟩ 40 Tryz.func65 (by decide) rfl no_loops fun vs bl v bl' h=> ?_
  unfold interval_Valid.sp at h
  split at h
  · rename_i a0_0 a0_1
    simp only [Option.some.injEq,Prod.mk.injEq,true_and] at h
    obtain ⟨rfl,rfl⟩:=h
    refine ⟨?_,by simp [okV,Nat.blt],clo_spec 8 _ (by kernel_rfl),told_blk (by kernel_rfl)⟩
    refine (interval_Valid.run a0_0 a0_1).trans ?_
    refine (interval_Valid.nat a0_0 a0_1 _).trans ?_
    kernel_rfl
  · cases h
def direction_Valid.K {R:Type} (f_interval_Valid:Int→Int→(Bool)) (a0_0:Int) (a0_1:Int) (a0_2:Int) (a0_3:Int) (a0_4:Int) (a0_5:Int) (k:(Bool)→R):R:=
 let t0:=f_interval_Valid a0_0 a0_1
 bif t0 then
 let t1:=f_interval_Valid a0_2 a0_3
 bif t1 then
 let t2:=f_interval_Valid a0_4 a0_5
 k (t2) else k (false) else k (false)
set_option maxRecDepth 100000 in
theorem direction_Valid.run (f_interval_Valid:Int→Int→(Bool)) (a0_0:Int) (a0_1:Int) (a0_2:Int) (a0_3:Int) (a0_4:Int) (a0_5:Int):xfn Tryz.prog ⟨[(65,interval_Valid.sp f_interval_Valid)],[],[]⟩ [] 40 Tryz.f49 [.agg ⟨[.int .i64 a0_0,.int .i64 a0_1,.int .i64 a0_2,.int .i64 a0_3,.int .i64 a0_4,.int .i64 a0_5]⟩] []=direction_Valid.K f_interval_Valid a0_0 a0_1 a0_2 a0_3 a0_4 a0_5 (fun r=>some (.bool r,[])):=by kernel_rfl
def direction_Valid (a0_0:Int) (a0_1:Int) (a0_2:Int) (a0_3:Int) (a0_4:Int) (a0_5:Int):Bool:=direction_Valid.K interval_Valid a0_0 a0_1 a0_2 a0_3 a0_4 a0_5 id
theorem direction_Valid.nat {R:Type} (f_interval_Valid:Int→Int→(Bool)) (a0_0:Int) (a0_1:Int) (a0_2:Int) (a0_3:Int) (a0_4:Int) (a0_5:Int) (k:(Bool)→R):direction_Valid.K f_interval_Valid a0_0 a0_1 a0_2 a0_3 a0_4 a0_5 k=k (direction_Valid.K f_interval_Valid a0_0 a0_1 a0_2 a0_3 a0_4 a0_5 id):=by
  simp only [direction_Valid.K,acond k,id_eq]
theorem direction_Valid.eq (a0 a1 a2 a3 a4 a5:Int):direction_Valid a0 a1 a2 a3 a4 a5=VB ((a0,a1),(a2,a3),(a4,a5)):=by
  simp only [direction_Valid,direction_Valid.K,id_eq,interval_Valid.eq,VB,V2]
  cases V a0 a1<;>cases V a2 a3<;>cases V a4 a5<;>rfl
theorem direction_Valid.ok:SOK Tryz.prog 49 (direction_Valid.sp direction_Valid):=by
  refine sok_of (E:=⟨[(65,interval_Valid.sp interval_Valid)],[],[]⟩) (L:=[]) ⟨(specs_cons interval_Valid.ok specs_nil),inl_nil,mixed_ok,lps_nil⟩ 40 Tryz.func49 (by decide) rfl no_loops fun vs bl v bl' h=> ?_
  unfold direction_Valid.sp at h
  split at h
  · rename_i a0_0 a0_1 a0_2 a0_3 a0_4 a0_5
    simp only [Option.some.injEq,Prod.mk.injEq,true_and] at h
    obtain ⟨rfl,rfl⟩:=h
    refine ⟨?_,by simp [okV,Nat.blt],clo_spec 8 _ (by kernel_rfl),told_blk (by kernel_rfl)⟩
    refine (direction_Valid.run interval_Valid a0_0 a0_1 a0_2 a0_3 a0_4 a0_5).trans ?_
    refine (direction_Valid.nat interval_Valid a0_0 a0_1 a0_2 a0_3 a0_4 a0_5 _).trans ?_
    kernel_rfl
  · cases h
def direction_calc_box.K {R:Type} (s0_0:Int) (a1_0:Int) (a1_1:Int) (a1_2:Int) (a1_3:Int) (a1_4:Int) (a1_5:Int) (k:Int×Int×Int×Int×Int×Int×Int×Int→R):R:=
 bif s0_0 !=0 then k (0,0,0,0,0,0,s0_0,s0_0) else k (a1_0,a1_1,a1_2,a1_3,a1_4,a1_5,0,s0_0)
set_option maxRecDepth 100000 in
theorem direction_calc_box.run (s0_0:Int) (a1_0:Int) (a1_1:Int) (a1_2:Int) (a1_3:Int) (a1_4:Int) (a1_5:Int):xfn Tryz.prog ⟨[],[],[]⟩ [] 40 Tryz.f64 [.pointer (some ⟨0,0,none⟩),.agg ⟨[.int .i64 a1_0,.int .i64 a1_1,.int .i64 a1_2,.int .i64 a1_3,.int .i64 a1_4,.int .i64 a1_5]⟩] [.cs [.int .i64 s0_0] 98]=direction_calc_box.K s0_0 a1_0 a1_1 a1_2 a1_3 a1_4 a1_5 (fun r=>some (.tuple ⟨[.agg ⟨[.int .i64 r.1,.int .i64 r.2.1,.int .i64 r.2.2.1,.int .i64 r.2.2.2.1,.int .i64 r.2.2.2.2.1,.int .i64 r.2.2.2.2.2.1]⟩,.int .i64 r.2.2.2.2.2.2.1]⟩,[.cs [.int .i64 r.2.2.2.2.2.2.2] 98])):=by kernel_rfl
def direction_calc_box (s0_0:Int) (a1_0:Int) (a1_1:Int) (a1_2:Int) (a1_3:Int) (a1_4:Int) (a1_5:Int):Int×Int×Int×Int×Int×Int×Int×Int:=direction_calc_box.K s0_0 a1_0 a1_1 a1_2 a1_3 a1_4 a1_5 id
theorem direction_calc_box.nat {R:Type} (s0_0:Int) (a1_0:Int) (a1_1:Int) (a1_2:Int) (a1_3:Int) (a1_4:Int) (a1_5:Int) (k:Int×Int×Int×Int×Int×Int×Int×Int→R):direction_calc_box.K s0_0 a1_0 a1_1 a1_2 a1_3 a1_4 a1_5 k=k (direction_calc_box.K s0_0 a1_0 a1_1 a1_2 a1_3 a1_4 a1_5 id):=by
  simp only [direction_calc_box.K,acond k,id_eq]
theorem direction_calc_box.ok:SOK Tryz.prog 64 (direction_calc_box.sp direction_calc_box):=by
  refine sok_of (E:=⟨[],[],[]⟩) (L:=[]) ⟨specs_nil,inl_nil,mixed_ok,lps_nil⟩ 40 Tryz.func64 (by decide) rfl no_loops fun vs bl v bl' h=> ?_
  unfold direction_calc_box.sp at h
  split at h
  · rename_i a1_0 a1_1 a1_2 a1_3 a1_4 a1_5 s0_0
    simp only [Option.some.injEq,Prod.mk.injEq,true_and] at h
    obtain ⟨rfl,rfl⟩:=h
    refine ⟨?_,by simp [okV,Nat.blt],clo_spec 8 _ (by kernel_rfl),told_blk (by kernel_rfl)⟩
    refine (direction_calc_box.run s0_0 a1_0 a1_1 a1_2 a1_3 a1_4 a1_5).trans ?_
    refine (direction_calc_box.nat s0_0 a1_0 a1_1 a1_2 a1_3 a1_4 a1_5 _).trans ?_
    kernel_rfl
  · cases h
def direction_calc_keep.K {R:Type} (s0_0:Int) (a1_0:Int) (a1_1:Int) (a2:Int) (k:Int×Int×Int→R):R:=
 bif s0_0==0 then k (a1_0,a1_1,a2) else k (a1_0,a1_1,s0_0)
set_option maxRecDepth 100000 in
theorem direction_calc_keep.run (s0_0:Int) (a1_0:Int) (a1_1:Int) (a2:Int):xfn Tryz.prog ⟨[],[],[]⟩ [] 40 Tryz.f62 [.pointer (some ⟨0,0,none⟩),.agg ⟨[.int .i64 a1_0,.int .i64 a1_1]⟩,.int .i64 a2] [.cs [.int .i64 s0_0] 98]=direction_calc_keep.K s0_0 a1_0 a1_1 a2 (fun r=>some (.agg ⟨[.int .i64 r.1,.int .i64 r.2.1]⟩,[.cs [.int .i64 r.2.2] 98])):=by kernel_rfl
def direction_calc_keep (s0_0:Int) (a1_0:Int) (a1_1:Int) (a2:Int):Int×Int×Int:=direction_calc_keep.K s0_0 a1_0 a1_1 a2 id
theorem direction_calc_keep.nat {R:Type} (s0_0:Int) (a1_0:Int) (a1_1:Int) (a2:Int) (k:Int×Int×Int→R):direction_calc_keep.K s0_0 a1_0 a1_1 a2 k=k (direction_calc_keep.K s0_0 a1_0 a1_1 a2 id):=by
  simp only [direction_calc_keep.K,acond k,id_eq]
theorem direction_calc_keep.eq (s a b e:Int):direction_calc_keep s a b e=(a,b,kp s e):=by
  simp only [direction_calc_keep,direction_calc_keep.K,id_eq,kp]
  cases s==0<;>rfl
theorem direction_calc_keep.ok:SOK Tryz.prog 62 (direction_calc_keep.sp direction_calc_keep):=by
  refine sok_of (E:=⟨[],[],[]⟩) (L:=[]) ⟨specs_nil,inl_nil,mixed_ok,lps_nil⟩ 40 Tryz.func62 (by decide) rfl no_loops fun vs bl v bl' h=> ?_
  unfold direction_calc_keep.sp at h
  split at h
  · rename_i a1_0 a1_1 a2 s0_0
    simp only [Option.some.injEq,Prod.mk.injEq,true_and] at h
    obtain ⟨rfl,rfl⟩:=h
    refine ⟨?_,by simp [okV,Nat.blt],clo_spec 8 _ (by kernel_rfl),told_blk (by kernel_rfl)⟩
    refine (direction_calc_keep.run s0_0 a1_0 a1_1 a2).trans ?_
    refine (direction_calc_keep.nat s0_0 a1_0 a1_1 a2 _).trans ?_
    kernel_rfl
  · cases h
def interval_made.K {R:Type} (a0:Int) (a1:Int) (k:Int×Int×Int→R):R:=
 bif decide (a0< -1073741824) then k (0,0,3) else bif decide (a1>1073741824) then k (0,0,3) else k (a0,a1,0)
set_option maxRecDepth 100000 in
theorem interval_made.run (a0:Int) (a1:Int):xfn Tryz.prog ⟨[],[],[]⟩ [] 40 Tryz.f118 [.int .i64 a0,.int .i64 a1] []=interval_made.K a0 a1 (fun r=>some (.tuple ⟨[.agg ⟨[.int .i64 r.1,.int .i64 r.2.1]⟩,.int .i64 r.2.2]⟩,[])):=by kernel_rfl
def interval_made (a0:Int) (a1:Int):Int×Int×Int:=interval_made.K a0 a1 id
theorem interval_made.nat {R:Type} (a0:Int) (a1:Int) (k:Int×Int×Int→R):interval_made.K a0 a1 k=k (interval_made.K a0 a1 id):=by
  simp only [interval_made.K,acond k,id_eq]
theorem interval_made.eq {a b:Int} (h:a≤b):interval_made a b=chk a b:=by
  simp only [interval_made,interval_made.K,id_eq,chk]
  by_cases h1:a< -1073741824
  · rw [V_not.2 (by omega)]; simp [h1]
  · by_cases h2:b>1073741824
    · rw [V_not.2 (by omega)]; simp [h1,h2]
    · rw [V_iff.2 ⟨by omega,h,by omega⟩]; simp [h1,h2]
theorem interval_made.ok:SOK Tryz.prog 118 (interval_made.sp interval_made):=by
  refine sok_of (E:=⟨[],[],[]⟩) (L:=[]) ⟨specs_nil,inl_nil,mixed_ok,lps_nil⟩ 40 Tryz.func118 (by decide) rfl no_loops fun vs bl v bl' h=> ?_
  unfold interval_made.sp at h
  split at h
  · rename_i a0 a1
    simp only [Option.some.injEq,Prod.mk.injEq,true_and] at h
    obtain ⟨rfl,rfl⟩:=h
    refine ⟨?_,by simp [okV,Nat.blt],clo_spec 8 _ (by kernel_rfl),told_blk (by kernel_rfl)⟩
    refine (interval_made.run a0 a1).trans ?_
    refine (interval_made.nat a0 a1 _).trans ?_
    kernel_rfl
  · cases h
def interval_Add.K {R:Type} (f_interval_made:Int→Int→(Int×Int×Int)) (f_interval_Valid:Int→Int→(Bool)) (a0_0:Int) (a0_1:Int) (a1_0:Int) (a1_1:Int) (k:Int×Int×Int→R):R:=
 let t0:=f_interval_Valid a0_0 a0_1
 bif !t0 then k (0,0,1) else
 let t1:=f_interval_Valid a1_0 a1_1
 bif !t1 then k (0,0,1) else
 let t2:=f_interval_made (IntKind.i64.wrap (a0_0+a1_0)) (IntKind.i64.wrap (a0_1+a1_1))
 k (t2.fst,t2.snd.fst,t2.snd.snd)
set_option maxRecDepth 100000 in
theorem interval_Add.run (f_interval_made:Int→Int→(Int×Int×Int)) (f_interval_Valid:Int→Int→(Bool)) (a0_0:Int) (a0_1:Int) (a1_0:Int) (a1_1:Int):xfn Tryz.prog ⟨[(118,interval_made.sp f_interval_made),(65,interval_Valid.sp f_interval_Valid)],[(129,Tryz.f129)],[]⟩ [] 40 Tryz.f122 [.agg ⟨[.int .i64 a0_0,.int .i64 a0_1]⟩,.agg ⟨[.int .i64 a1_0,.int .i64 a1_1]⟩] []=interval_Add.K f_interval_made f_interval_Valid a0_0 a0_1 a1_0 a1_1 (fun r=>some (.tuple ⟨[.agg ⟨[.int .i64 r.1,.int .i64 r.2.1]⟩,.int .i64 r.2.2]⟩,[])):=by kernel_rfl
def interval_Add (a0_0:Int) (a0_1:Int) (a1_0:Int) (a1_1:Int):Int×Int×Int:=interval_Add.K interval_made interval_Valid a0_0 a0_1 a1_0 a1_1 id
theorem interval_Add.nat {R:Type} (f_interval_made:Int→Int→(Int×Int×Int)) (f_interval_Valid:Int→Int→(Bool)) (a0_0:Int) (a0_1:Int) (a1_0:Int) (a1_1:Int) (k:Int×Int×Int→R):interval_Add.K f_interval_made f_interval_Valid a0_0 a0_1 a1_0 a1_1 k=k (interval_Add.K f_interval_made f_interval_Valid a0_0 a0_1 a1_0 a1_1 id):=by
  simp only [interval_Add.K,acond k,id_eq]
theorem interval_Add.eq (a b c d:Int):interval_Add a b c d=iadd a b c d:=by
  simp only [interval_Add,interval_Add.K,id_eq,interval_Valid.eq,iadd]
  cases h1:V a b with
  |false=>simp
  | true=>cases h2:V c d with
    |false=>simp
    | true=>
      have:=V_iff.1 h1
      have:=V_iff.1 h2
      rw [w64 (by omega) (by omega),w64 (by omega) (by omega),interval_made.eq (by omega)]
      simp
theorem interval_Add.ok:SOK Tryz.prog 122 (interval_Add.sp interval_Add):=by
  refine sok_of (E:=⟨[(118,interval_made.sp interval_made),(65,interval_Valid.sp interval_Valid)],[(129,Tryz.f129)],[]⟩) (L:=[]) ⟨(specs_cons interval_made.ok (specs_cons interval_Valid.ok specs_nil)),(inl_cons ⟨Tryz.func129,by decide,rfl⟩ inl_nil),mixed_ok,lps_nil⟩ 40 Tryz.func122 (by decide) rfl no_loops fun vs bl v bl' h=> ?_
  unfold interval_Add.sp at h
  split at h
  · rename_i a0_0 a0_1 a1_0 a1_1
    simp only [Option.some.injEq,Prod.mk.injEq,true_and] at h
    obtain ⟨rfl,rfl⟩:=h
    refine ⟨?_,by simp [okV,Nat.blt],clo_spec 8 _ (by kernel_rfl),told_blk (by kernel_rfl)⟩
    refine (interval_Add.run interval_made interval_Valid a0_0 a0_1 a1_0 a1_1).trans ?_
    refine (interval_Add.nat interval_made interval_Valid a0_0 a0_1 a1_0 a1_1 _).trans ?_
    kernel_rfl
  · cases h
def interval_floor.K {R:Type} (a0:Int) (a1:Int) (k:(Int)→Option R):Option R:=
 bif a1 !=0 then bif a1 !=0 then bif a0.tmod a1 !=0 then bif decide (a0<0) then k (IntKind.i64.wrap (IntKind.i64.wrap (a0.tdiv a1)-1)) else k (IntKind.i64.wrap (a0.tdiv a1)) else k (IntKind.i64.wrap (a0.tdiv a1)) else none else none
set_option maxRecDepth 100000 in
theorem interval_floor.run (a0:Int) (a1:Int):xfn Tryz.prog ⟨[],[],[]⟩ [] 40 Tryz.f119 [.int .i64 a0,.int .i64 a1] []=interval_floor.K a0 a1 (fun r=>some (.int .i64 r,[])):=by kernel_rfl
def interval_floor.o (a0:Int) (a1:Int):Option (Int):=interval_floor.K a0 a1 some
def interval_floor (a0:Int) (a1:Int):Int:=(interval_floor.o a0 a1).getD default
theorem interval_floor.nat {R:Type} (a0:Int) (a1:Int) (k:(Int)→Option R):interval_floor.K a0 a1 k=(interval_floor.K a0 a1 some).bind k:=by
  simp only [interval_floor.K,bcond,Option.bind_some,Option.bind_none]
theorem interval_floor.eq {a b:Int} (hb:0<b) (h1: -4611686018427387904≤a) (h2:a≤4611686018427387904):interval_floor a b=a/b:=by
  have hb0:(b !=0)=true:=by simp; omega
  have hq:=tdiv_bnd hb h1 h2
  simp only [interval_floor,interval_floor.o,interval_floor.K,hb0,cond_true]
  have hd:a.tdiv b=a/b+if 0≤a∨b∣a then 0 else b.sign:=Int.tdiv_eq_ediv
  rw [Int.sign_eq_one_of_pos hb] at hd
  by_cases hm:a.tmod b=0
  · have hv:b∣a:=Int.dvd_of_tmod_eq_zero hm
    simp only [hv,or_true,if_true,Int.add_zero] at hd
    simp only [hm,bne_self_eq_false,cond_false,Option.getD_some,hd]
    exact w64 (by omega) (by omega)
  · have hv:¬b∣a:=fun h=>hm (Int.tmod_eq_zero_of_dvd h)
    have hm':(a.tmod b !=0)=true:=by simp [hm]
    simp only [hm',cond_true]
    by_cases ha:a<0
    · simp only [hv,or_false,show ¬0≤a from by omega,if_false] at hd
      simp only [ha,decide_true,cond_true,Option.getD_some,hd]
      rw [w64 (n:=a/b+1) (by omega) (by omega),Int.add_sub_cancel,w64 (by omega) (by omega)]
    · simp only [show 0≤a from by omega,true_or,if_true,Int.add_zero] at hd
      simp only [ha,decide_false,cond_false,Option.getD_some,hd]
      exact w64 (by omega) (by omega)
theorem interval_floor.ok:SOK Tryz.prog 119 (interval_floor.sp interval_floor):=by
  refine sok_of (E:=⟨[],[],[]⟩) (L:=[]) ⟨specs_nil,inl_nil,mixed_ok,lps_nil⟩ 40 Tryz.func119 (by decide) rfl no_loops fun vs bl v bl' h=> ?_
  unfold interval_floor.sp at h
  split at h
  · rename_i a0 a1
    simp only [Option.some.injEq,Prod.mk.injEq] at h
    obtain ⟨hp,rfl,rfl⟩:=h
    have hr:=interval_floor.run a0 a1
    rw [interval_floor.nat] at hr
    obtain ⟨r,h2⟩:=Option.isSome_iff_exists.1 (by simp [interval_floor.o,interval_floor.K,isSome_cond,bool_cond_true,hp]:(interval_floor.o a0 a1).isSome=true)
    have h3:interval_floor a0 a1=r:=by unfold interval_floor; rw [h2]; rfl
    have h4:interval_floor.K a0 a1 some=some r:=h2
    rw [h4,Option.bind_some] at hr
    rw [h3]
    exact ⟨hr,by simp [okV,Nat.blt],clo_spec 8 _ (by kernel_rfl),told_blk (by kernel_rfl)⟩
  · cases h
def interval_ceil.K {R:Type} (f_interval_floor:Int→Int→(Int)) (a0:Int) (a1:Int) (k:(Int)→Option R):Option R:=
 bif a1 !=0 then
 let t0:=f_interval_floor (IntKind.i64.wrap (0-a0)) a1
 k (IntKind.i64.wrap (0-t0)) else none
set_option maxRecDepth 100000 in
theorem interval_ceil.run (f_interval_floor:Int→Int→(Int)) (a0:Int) (a1:Int):xfn Tryz.prog ⟨[(119,interval_floor.sp f_interval_floor)],[],[]⟩ [] 40 Tryz.f120 [.int .i64 a0,.int .i64 a1] []=interval_ceil.K f_interval_floor a0 a1 (fun r=>some (.int .i64 r,[])):=by kernel_rfl
def interval_ceil.o (a0:Int) (a1:Int):Option (Int):=interval_ceil.K interval_floor a0 a1 some
def interval_ceil (a0:Int) (a1:Int):Int:=(interval_ceil.o a0 a1).getD default
theorem interval_ceil.nat {R:Type} (f_interval_floor:Int→Int→(Int)) (a0:Int) (a1:Int) (k:(Int)→Option R):interval_ceil.K f_interval_floor a0 a1 k=(interval_ceil.K f_interval_floor a0 a1 some).bind k:=by
  simp only [interval_ceil.K,bcond,Option.bind_some,Option.bind_none]
theorem interval_ceil.eq {a b:Int} (hb:0<b) (h1: -4611686018427387904≤a) (h2:a≤4611686018427387904):interval_ceil a b=cl a b:=by
  have hb0:(b !=0)=true:=by simp; omega
  have hq:=tdiv_bnd (a:= -a) hb (by omega) (by omega)
  simp only [interval_ceil,interval_ceil.o,interval_ceil.K,hb0,cond_true,Option.getD_some,Int.zero_sub]
  rw [w64 (n:= -a) (by omega) (by omega),interval_floor.eq hb (by omega) (by omega),w64 (by omega) (by omega)]
  rfl
theorem interval_ceil.ok:SOK Tryz.prog 120 (interval_ceil.sp interval_ceil):=by
  refine sok_of (E:=⟨[(119,interval_floor.sp interval_floor)],[],[]⟩) (L:=[]) ⟨(specs_cons interval_floor.ok specs_nil),inl_nil,mixed_ok,lps_nil⟩ 40 Tryz.func120 (by decide) rfl no_loops fun vs bl v bl' h=> ?_
  unfold interval_ceil.sp at h
  split at h
  · rename_i a0 a1
    simp only [Option.some.injEq,Prod.mk.injEq] at h
    obtain ⟨hp,rfl,rfl⟩:=h
    have hr:=interval_ceil.run interval_floor a0 a1
    rw [interval_ceil.nat] at hr
    obtain ⟨r,h2⟩:=Option.isSome_iff_exists.1 (by simp [interval_ceil.o,interval_ceil.K,isSome_cond,bool_cond_true,hp]:(interval_ceil.o a0 a1).isSome=true)
    have h3:interval_ceil a0 a1=r:=by unfold interval_ceil; rw [h2]; rfl
    have h4:interval_ceil.K interval_floor a0 a1 some=some r:=h2
    rw [h4,Option.bind_some] at hr
    rw [h3]
    exact ⟨hr,by simp [okV,Nat.blt],clo_spec 8 _ (by kernel_rfl),told_blk (by kernel_rfl)⟩
  · cases h
def interval_Div.K {R:Type} (f_interval_made:Int→Int→(Int×Int×Int)) (f_interval_floor:Int→Int→(Int)) (f_interval_ceil:Int→Int→(Int)) (f_interval_Valid:Int→Int→(Bool)) (a0_0:Int) (a0_1:Int) (a1_0:Int) (a1_1:Int) (k:Int×Int×Int→Option R):Option R:=
 let t0:=f_interval_Valid a0_0 a0_1
 bif !t0 then k (0,0,1) else
 let t1:=f_interval_Valid a1_0 a1_1
 bif !t1 then k (0,0,1) else bif decide (a1_0≤0) then bif decide (a1_1≥0) then k (0,0,10) else bif decide (a1_1<0) then bif IntKind.i64.wrap (0-a1_1) !=0 then bif IntKind.i64.wrap (0-a1_0) !=0 then bif IntKind.i64.wrap (0-a1_1) !=0 then bif IntKind.i64.wrap (0-a1_0) !=0 then
 let t2:=f_interval_floor (IntKind.i64.wrap (IntKind.i64.wrap (0-a0_1)*16777216)) (IntKind.i64.wrap (0-a1_1))
 let t3:=f_interval_floor (IntKind.i64.wrap (IntKind.i64.wrap (0-a0_1)*16777216)) (IntKind.i64.wrap (0-a1_0))
 let t4:=f_interval_ceil (IntKind.i64.wrap (IntKind.i64.wrap (0-a0_0)*16777216)) (IntKind.i64.wrap (0-a1_1))
 let t5:=f_interval_ceil (IntKind.i64.wrap (IntKind.i64.wrap (0-a0_0)*16777216)) (IntKind.i64.wrap (0-a1_0))
 let t6:=f_interval_made (mn (mn t2 t2) t3) (mx (mx t4 t4) t5)
 k (t6.fst,t6.snd.fst,t6.snd.snd) else none else none else none else none else bif a1_0 !=0 then bif a1_1 !=0 then bif a1_0 !=0 then bif a1_1 !=0 then
 let t7:=f_interval_floor (IntKind.i64.wrap (a0_0*16777216)) a1_0
 let t8:=f_interval_floor (IntKind.i64.wrap (a0_0*16777216)) a1_1
 let t9:=f_interval_ceil (IntKind.i64.wrap (a0_1*16777216)) a1_0
 let t10:=f_interval_ceil (IntKind.i64.wrap (a0_1*16777216)) a1_1
 let t11:=f_interval_made (mn (mn t7 t7) t8) (mx (mx t9 t9) t10)
 k (t11.fst,t11.snd.fst,t11.snd.snd) else none else none else none else none else bif decide (a1_1<0) then bif IntKind.i64.wrap (0-a1_1) !=0 then bif IntKind.i64.wrap (0-a1_0) !=0 then bif IntKind.i64.wrap (0-a1_1) !=0 then bif IntKind.i64.wrap (0-a1_0) !=0 then
 let t12:=f_interval_floor (IntKind.i64.wrap (IntKind.i64.wrap (0-a0_1)*16777216)) (IntKind.i64.wrap (0-a1_1))
 let t13:=f_interval_floor (IntKind.i64.wrap (IntKind.i64.wrap (0-a0_1)*16777216)) (IntKind.i64.wrap (0-a1_0))
 let t14:=f_interval_ceil (IntKind.i64.wrap (IntKind.i64.wrap (0-a0_0)*16777216)) (IntKind.i64.wrap (0-a1_1))
 let t15:=f_interval_ceil (IntKind.i64.wrap (IntKind.i64.wrap (0-a0_0)*16777216)) (IntKind.i64.wrap (0-a1_0))
 let t16:=f_interval_made (mn (mn t12 t12) t13) (mx (mx t14 t14) t15)
 k (t16.fst,t16.snd.fst,t16.snd.snd) else none else none else none else none else bif a1_0 !=0 then bif a1_1 !=0 then bif a1_0 !=0 then bif a1_1 !=0 then
 let t17:=f_interval_floor (IntKind.i64.wrap (a0_0*16777216)) a1_0
 let t18:=f_interval_floor (IntKind.i64.wrap (a0_0*16777216)) a1_1
 let t19:=f_interval_ceil (IntKind.i64.wrap (a0_1*16777216)) a1_0
 let t20:=f_interval_ceil (IntKind.i64.wrap (a0_1*16777216)) a1_1
 let t21:=f_interval_made (mn (mn t17 t17) t18) (mx (mx t19 t19) t20)
 k (t21.fst,t21.snd.fst,t21.snd.snd) else none else none else none else none
set_option maxRecDepth 100000 in
theorem interval_Div.run (f_interval_made:Int→Int→(Int×Int×Int)) (f_interval_floor:Int→Int→(Int)) (f_interval_ceil:Int→Int→(Int)) (f_interval_Valid:Int→Int→(Bool)) (a0_0:Int) (a0_1:Int) (a1_0:Int) (a1_1:Int):xfn Tryz.prog ⟨[(117,interval_extremes.sp),(118,interval_made.sp f_interval_made),(119,interval_floor.sp f_interval_floor),(120,interval_ceil.sp f_interval_ceil),(65,interval_Valid.sp f_interval_Valid)],[(129,Tryz.f129)],[]⟩ [] 40 Tryz.f123 [.agg ⟨[.int .i64 a0_0,.int .i64 a0_1]⟩,.agg ⟨[.int .i64 a1_0,.int .i64 a1_1]⟩] []=interval_Div.K f_interval_made f_interval_floor f_interval_ceil f_interval_Valid a0_0 a0_1 a1_0 a1_1 (fun r=>some (.tuple ⟨[.agg ⟨[.int .i64 r.1,.int .i64 r.2.1]⟩,.int .i64 r.2.2]⟩,[])):=by kernel_rfl
def interval_Div.o (a0_0:Int) (a0_1:Int) (a1_0:Int) (a1_1:Int):Option (Int×Int×Int):=interval_Div.K interval_made interval_floor interval_ceil interval_Valid a0_0 a0_1 a1_0 a1_1 some
def interval_Div (a0_0:Int) (a0_1:Int) (a1_0:Int) (a1_1:Int):Int×Int×Int:=(interval_Div.o a0_0 a0_1 a1_0 a1_1).getD default
theorem interval_Div.nat {R:Type} (f_interval_made:Int→Int→(Int×Int×Int)) (f_interval_floor:Int→Int→(Int)) (f_interval_ceil:Int→Int→(Int)) (f_interval_Valid:Int→Int→(Bool)) (a0_0:Int) (a0_1:Int) (a1_0:Int) (a1_1:Int) (k:Int×Int×Int→Option R):interval_Div.K f_interval_made f_interval_floor f_interval_ceil f_interval_Valid a0_0 a0_1 a1_0 a1_1 k=(interval_Div.K f_interval_made f_interval_floor f_interval_ceil f_interval_Valid a0_0 a0_1 a1_0 a1_1 some).bind k:=by
  simp only [interval_Div.K,bcond,Option.bind_some,Option.bind_none]
theorem interval_Div.o_eq (a b c d:Int):interval_Div.o a b c d=some (idiv a b c d):=by
  simp only [interval_Div.o,interval_Div.K,interval_Valid.eq,idiv]
  cases h1:V a b with
  |false=>simp
  | true=>cases h2:V c d with
    |false=>simp
    | true=>
      have:=V_iff.1 h1
      have:=V_iff.1 h2
      have w1:IntKind.i64.wrap (0-a)= -a:=by rw [Int.zero_sub]; exact w64 (by omega) (by omega)
      have w2:IntKind.i64.wrap (0-b)= -b:=by rw [Int.zero_sub]; exact w64 (by omega) (by omega)
      have w3:IntKind.i64.wrap (0-c)= -c:=by rw [Int.zero_sub]; exact w64 (by omega) (by omega)
      have w4:IntKind.i64.wrap (0-d)= -d:=by rw [Int.zero_sub]; exact w64 (by omega) (by omega)
      have w5:IntKind.i64.wrap (a*16777216)=a*16777216:=w64 (by omega) (by omega)
      have w6:IntKind.i64.wrap (b*16777216)=b*16777216:=w64 (by omega) (by omega)
      have w7:IntKind.i64.wrap (-a*16777216)= -a*16777216:=w64 (by omega) (by omega)
      have w8:IntKind.i64.wrap (-b*16777216)= -b*16777216:=w64 (by omega) (by omega)
      simp only [w1,w2,w3,w4,w5,w6,w7,w8,mn_eq,mx_eq,Bool.not_true,cond_false,cond_true,Bool.and_self]
      have pos:∀x y u v:Int,-1073741824≤x→x≤y→y≤1073741824→0<u→u≤v→v≤1073741824→interval_made (min (min (interval_floor (x*16777216) u) (interval_floor (x*16777216) u)) (interval_floor (x*16777216) v)) (max (max (interval_ceil (y*16777216) u) (interval_ceil (y*16777216) u)) (interval_ceil (y*16777216) v))=pdiv x y u v:=fun x y u v hx hxy hy hu huv hv=>by
        have hv0:0<v:=by omega
        have f1:interval_floor (x*16777216) u=x*16777216/u:=interval_floor.eq hu (by omega) (by omega)
        have f2:interval_floor (x*16777216) v=x*16777216/v:=interval_floor.eq hv0 (by omega) (by omega)
        have f3:interval_ceil (y*16777216) u=cl (y*16777216) u:=interval_ceil.eq hu (by omega) (by omega)
        have f4:interval_ceil (y*16777216) v=cl (y*16777216) v:=interval_ceil.eq hv0 (by omega) (by omega)
        rw [f1,f2,f3,f4,Int.min_self,Int.max_self]
        have:=fl_le_cl' (x:=x*16777216) (y:=y*16777216) hu (by omega)
        exact interval_made.eq (by omega)
      by_cases h3:c≤0
      · by_cases h4:d≥0
        · simp [h3,h4]
        · have h5:d<0:=by omega
          have n1:((-d) !=0)=true:=by simp; omega
          have n2:((-c) !=0)=true:=by simp; omega
          have n3:¬(c≤0∧0≤d):=by omega
          rw [if_neg n3,if_pos h5]
          simp only [h3,h4,h5,n1,n2,decide_true,decide_false,cond_true,cond_false,pos (-b) (-a) (-d) (-c) (by omega) (by omega) (by omega) (by omega) (by omega) (by omega)]
      · have h5:¬d<0:=by omega
        have n1:(c !=0)=true:=by simp; omega
        have n2:(d !=0)=true:=by simp; omega
        have n3:¬(c≤0∧0≤d):=by omega
        rw [if_neg n3,if_neg h5]
        simp only [h3,h5,n1,n2,decide_true,decide_false,cond_true,cond_false,pos a b c d (by omega) (by omega) (by omega) (by omega) (by omega) (by omega)]
theorem interval_Div.total (a b c d:Int):(interval_Div.o a b c d).isSome=true:=by rw [interval_Div.o_eq]; rfl
theorem interval_Div.eq (a b c d:Int):interval_Div a b c d=idiv a b c d:=by rw [interval_Div,interval_Div.o_eq]; rfl
theorem interval_Div.ok:SOK Tryz.prog 123 (interval_Div.sp interval_Div):=by
  refine sok_of (E:=⟨[(117,interval_extremes.sp),(118,interval_made.sp interval_made),(119,interval_floor.sp interval_floor),(120,interval_ceil.sp interval_ceil),(65,interval_Valid.sp interval_Valid)],[(129,Tryz.f129)],[]⟩) (L:=[]) ⟨(specs_cons interval_extremes.ok (specs_cons interval_made.ok (specs_cons interval_floor.ok (specs_cons interval_ceil.ok (specs_cons interval_Valid.ok specs_nil))))),(inl_cons ⟨Tryz.func129,by decide,rfl⟩ inl_nil),mixed_ok,lps_nil⟩ 40 Tryz.func123 (by decide) rfl no_loops fun vs bl v bl' h=> ?_
  unfold interval_Div.sp at h
  split at h
  · rename_i a0_0 a0_1 a1_0 a1_1
    simp only [Option.some.injEq,Prod.mk.injEq] at h
    obtain ⟨hp,rfl,rfl⟩:=h
    have hr:=interval_Div.run interval_made interval_floor interval_ceil interval_Valid a0_0 a0_1 a1_0 a1_1
    rw [interval_Div.nat] at hr
    obtain ⟨r,h2⟩:=Option.isSome_iff_exists.1 (interval_Div.total a0_0 a0_1 a1_0 a1_1:(interval_Div.o a0_0 a0_1 a1_0 a1_1).isSome=true)
    have h3:interval_Div a0_0 a0_1 a1_0 a1_1=r:=by unfold interval_Div; rw [h2]; rfl
    have h4:interval_Div.K interval_made interval_floor interval_ceil interval_Valid a0_0 a0_1 a1_0 a1_1 some=some r:=h2
    rw [h4,Option.bind_some] at hr
    rw [h3]
    exact ⟨hr,by simp [okV,Nat.blt],clo_spec 8 _ (by kernel_rfl),told_blk (by kernel_rfl)⟩
  · cases h
def interval_Sub.K {R:Type} (f_interval_made:Int→Int→(Int×Int×Int)) (f_interval_Valid:Int→Int→(Bool)) (a0_0:Int) (a0_1:Int) (a1_0:Int) (a1_1:Int) (k:Int×Int×Int→R):R:=
 let t0:=f_interval_Valid a0_0 a0_1
 bif !t0 then k (0,0,1) else
 let t1:=f_interval_Valid a1_0 a1_1
 bif !t1 then k (0,0,1) else
 let t2:=f_interval_made (IntKind.i64.wrap (a0_0-a1_1)) (IntKind.i64.wrap (a0_1-a1_0))
 k (t2.fst,t2.snd.fst,t2.snd.snd)
set_option maxRecDepth 100000 in
theorem interval_Sub.run (f_interval_made:Int→Int→(Int×Int×Int)) (f_interval_Valid:Int→Int→(Bool)) (a0_0:Int) (a0_1:Int) (a1_0:Int) (a1_1:Int):xfn Tryz.prog ⟨[(118,interval_made.sp f_interval_made),(65,interval_Valid.sp f_interval_Valid)],[(129,Tryz.f129)],[]⟩ [] 40 Tryz.f124 [.agg ⟨[.int .i64 a0_0,.int .i64 a0_1]⟩,.agg ⟨[.int .i64 a1_0,.int .i64 a1_1]⟩] []=interval_Sub.K f_interval_made f_interval_Valid a0_0 a0_1 a1_0 a1_1 (fun r=>some (.tuple ⟨[.agg ⟨[.int .i64 r.1,.int .i64 r.2.1]⟩,.int .i64 r.2.2]⟩,[])):=by kernel_rfl
def interval_Sub (a0_0:Int) (a0_1:Int) (a1_0:Int) (a1_1:Int):Int×Int×Int:=interval_Sub.K interval_made interval_Valid a0_0 a0_1 a1_0 a1_1 id
theorem interval_Sub.nat {R:Type} (f_interval_made:Int→Int→(Int×Int×Int)) (f_interval_Valid:Int→Int→(Bool)) (a0_0:Int) (a0_1:Int) (a1_0:Int) (a1_1:Int) (k:Int×Int×Int→R):interval_Sub.K f_interval_made f_interval_Valid a0_0 a0_1 a1_0 a1_1 k=k (interval_Sub.K f_interval_made f_interval_Valid a0_0 a0_1 a1_0 a1_1 id):=by
  simp only [interval_Sub.K,acond k,id_eq]
theorem interval_Sub.eq (a b c d:Int):interval_Sub a b c d=isub a b c d:=by
  simp only [interval_Sub,interval_Sub.K,id_eq,interval_Valid.eq,isub]
  cases h1:V a b with
  |false=>simp
  | true=>cases h2:V c d with
    |false=>simp
    | true=>
      have:=V_iff.1 h1
      have:=V_iff.1 h2
      rw [w64 (by omega) (by omega),w64 (by omega) (by omega),interval_made.eq (by omega)]
      simp
theorem interval_Sub.ok:SOK Tryz.prog 124 (interval_Sub.sp interval_Sub):=by
  refine sok_of (E:=⟨[(118,interval_made.sp interval_made),(65,interval_Valid.sp interval_Valid)],[(129,Tryz.f129)],[]⟩) (L:=[]) ⟨(specs_cons interval_made.ok (specs_cons interval_Valid.ok specs_nil)),(inl_cons ⟨Tryz.func129,by decide,rfl⟩ inl_nil),mixed_ok,lps_nil⟩ 40 Tryz.func124 (by decide) rfl no_loops fun vs bl v bl' h=> ?_
  unfold interval_Sub.sp at h
  split at h
  · rename_i a0_0 a0_1 a1_0 a1_1
    simp only [Option.some.injEq,Prod.mk.injEq,true_and] at h
    obtain ⟨rfl,rfl⟩:=h
    refine ⟨?_,by simp [okV,Nat.blt],clo_spec 8 _ (by kernel_rfl),told_blk (by kernel_rfl)⟩
    refine (interval_Sub.run interval_made interval_Valid a0_0 a0_1 a1_0 a1_1).trans ?_
    refine (interval_Sub.nat interval_made interval_Valid a0_0 a0_1 a1_0 a1_1 _).trans ?_
    kernel_rfl
  · cases h
def interval_Mul.K {R:Type} (f_interval_made:Int→Int→(Int×Int×Int)) (f_interval_floor:Int→Int→(Int)) (f_interval_ceil:Int→Int→(Int)) (f_interval_Valid:Int→Int→(Bool)) (a0_0:Int) (a0_1:Int) (a1_0:Int) (a1_1:Int) (k:Int×Int×Int→R):R:=
 let t0:=f_interval_Valid a0_0 a0_1
 bif !t0 then k (0,0,1) else
 let t1:=f_interval_Valid a1_0 a1_1
 bif !t1 then k (0,0,1) else
 let t2:=f_interval_floor (mn (mn (mn (mn (IntKind.i64.wrap (a0_0*a1_0)) (IntKind.i64.wrap (a0_0*a1_0))) (IntKind.i64.wrap (a0_0*a1_1))) (IntKind.i64.wrap (a0_1*a1_0))) (IntKind.i64.wrap (a0_1*a1_1))) 16777216
 let t3:=f_interval_ceil (mx (mx (mx (mx (IntKind.i64.wrap (a0_0*a1_0)) (IntKind.i64.wrap (a0_0*a1_0))) (IntKind.i64.wrap (a0_0*a1_1))) (IntKind.i64.wrap (a0_1*a1_0))) (IntKind.i64.wrap (a0_1*a1_1))) 16777216
 let t4:=f_interval_made t2 t3
 k (t4.fst,t4.snd.fst,t4.snd.snd)
set_option maxRecDepth 100000 in
theorem interval_Mul.run (f_interval_made:Int→Int→(Int×Int×Int)) (f_interval_floor:Int→Int→(Int)) (f_interval_ceil:Int→Int→(Int)) (f_interval_Valid:Int→Int→(Bool)) (a0_0:Int) (a0_1:Int) (a1_0:Int) (a1_1:Int):xfn Tryz.prog ⟨[(117,interval_extremes.sp),(118,interval_made.sp f_interval_made),(119,interval_floor.sp f_interval_floor),(120,interval_ceil.sp f_interval_ceil),(65,interval_Valid.sp f_interval_Valid)],[(129,Tryz.f129)],[]⟩ [] 40 Tryz.f127 [.agg ⟨[.int .i64 a0_0,.int .i64 a0_1]⟩,.agg ⟨[.int .i64 a1_0,.int .i64 a1_1]⟩] []=interval_Mul.K f_interval_made f_interval_floor f_interval_ceil f_interval_Valid a0_0 a0_1 a1_0 a1_1 (fun r=>some (.tuple ⟨[.agg ⟨[.int .i64 r.1,.int .i64 r.2.1]⟩,.int .i64 r.2.2]⟩,[])):=by kernel_rfl
def interval_Mul (a0_0:Int) (a0_1:Int) (a1_0:Int) (a1_1:Int):Int×Int×Int:=interval_Mul.K interval_made interval_floor interval_ceil interval_Valid a0_0 a0_1 a1_0 a1_1 id
theorem interval_Mul.nat {R:Type} (f_interval_made:Int→Int→(Int×Int×Int)) (f_interval_floor:Int→Int→(Int)) (f_interval_ceil:Int→Int→(Int)) (f_interval_Valid:Int→Int→(Bool)) (a0_0:Int) (a0_1:Int) (a1_0:Int) (a1_1:Int) (k:Int×Int×Int→R):interval_Mul.K f_interval_made f_interval_floor f_interval_ceil f_interval_Valid a0_0 a0_1 a1_0 a1_1 k=k (interval_Mul.K f_interval_made f_interval_floor f_interval_ceil f_interval_Valid a0_0 a0_1 a1_0 a1_1 id):=by
  simp only [interval_Mul.K,acond k,id_eq]
theorem interval_Mul.eq (a b c d:Int):interval_Mul a b c d=imul a b c d:=by
  simp only [interval_Mul,interval_Mul.K,id_eq,interval_Valid.eq,imul]
  cases h1:V a b with
  |false=>simp
  | true=>cases h2:V c d with
    |false=>simp
    | true=>
      have:=V_iff.1 h1
      have:=V_iff.1 h2
      have e1:=mul_bnd30 (x:=a) (y:=c) (by omega) (by omega) (by omega) (by omega)
      have e2:=mul_bnd30 (x:=a) (y:=d) (by omega) (by omega) (by omega) (by omega)
      have e3:=mul_bnd30 (x:=b) (y:=c) (by omega) (by omega) (by omega) (by omega)
      have e4:=mul_bnd30 (x:=b) (y:=d) (by omega) (by omega) (by omega) (by omega)
      have w1:IntKind.i64.wrap (a*c)=a*c:=w64 (by omega) (by omega)
      have w2:IntKind.i64.wrap (a*d)=a*d:=w64 (by omega) (by omega)
      have w3:IntKind.i64.wrap (b*c)=b*c:=w64 (by omega) (by omega)
      have w4:IntKind.i64.wrap (b*d)=b*d:=w64 (by omega) (by omega)
      have m1:min (min (min (min (a*c) (a*c)) (a*d)) (b*c)) (b*d)=mn4 (a*c) (a*d) (b*c) (b*d):=by simp only [mn4]; omega
      have m2:max (max (max (max (a*c) (a*c)) (a*d)) (b*c)) (b*d)=mx4 (a*c) (a*d) (b*c) (b*d):=by simp only [mx4]; omega
      simp only [w1,w2,w3,w4,mn_eq,mx_eq,Bool.not_true,cond_false,Bool.and_self,cond_true,m1,m2]
      have hmn:mn4 (a*c) (a*d) (b*c) (b*d)≤mx4 (a*c) (a*d) (b*c) (b*d):=by simp only [mn4,mx4]; omega
      rw [interval_floor.eq (by omega) (by simp only [mn4]; omega) (by simp only [mn4]; omega),interval_ceil.eq (by omega) (by simp only [mx4]; omega) (by simp only [mx4]; omega),interval_made.eq (fl_le_cl' (by omega) hmn)]
theorem interval_Mul.ok:SOK Tryz.prog 127 (interval_Mul.sp interval_Mul):=by
  refine sok_of (E:=⟨[(117,interval_extremes.sp),(118,interval_made.sp interval_made),(119,interval_floor.sp interval_floor),(120,interval_ceil.sp interval_ceil),(65,interval_Valid.sp interval_Valid)],[(129,Tryz.f129)],[]⟩) (L:=[]) ⟨(specs_cons interval_extremes.ok (specs_cons interval_made.ok (specs_cons interval_floor.ok (specs_cons interval_ceil.ok (specs_cons interval_Valid.ok specs_nil))))),(inl_cons ⟨Tryz.func129,by decide,rfl⟩ inl_nil),mixed_ok,lps_nil⟩ 40 Tryz.func127 (by decide) rfl no_loops fun vs bl v bl' h=> ?_
  unfold interval_Mul.sp at h
  split at h
  · rename_i a0_0 a0_1 a1_0 a1_1
    simp only [Option.some.injEq,Prod.mk.injEq,true_and] at h
    obtain ⟨rfl,rfl⟩:=h
    refine ⟨?_,by simp [okV,Nat.blt],clo_spec 8 _ (by kernel_rfl),told_blk (by kernel_rfl)⟩
    refine (interval_Mul.run interval_made interval_floor interval_ceil interval_Valid a0_0 a0_1 a1_0 a1_1).trans ?_
    refine (interval_Mul.nat interval_made interval_floor interval_ceil interval_Valid a0_0 a0_1 a1_0 a1_1 _).trans ?_
    kernel_rfl
  · cases h
def direction_calc_two_interval_Add.K {R:Type} (f_direction_calc_keep:Int→Int→Int→Int→(Int×Int×Int)) (f_interval_Add:Int→Int→Int→Int→(Int×Int×Int)) (f_interval_Div:Int→Int→Int→Int→(Int×Int×Int)) (f_interval_Sub:Int→Int→Int→Int→(Int×Int×Int)) (f_interval_Mul:Int→Int→Int→Int→(Int×Int×Int)) (s0_0:Int) (a2_0:Int) (a2_1:Int) (a3_0:Int) (a3_1:Int) (k:Int×Int×Int→R):R:=
 bif s0_0 !=0 then k (a2_0,a2_1,s0_0) else
 let t0:=f_interval_Add a2_0 a2_1 a3_0 a3_1
 let t1:=f_direction_calc_keep s0_0 t0.fst t0.snd.fst t0.snd.snd
 k (t1.fst,t1.snd.fst,t1.snd.snd)
set_option maxRecDepth 100000 in
theorem direction_calc_two_interval_Add.run (f_direction_calc_keep:Int→Int→Int→Int→(Int×Int×Int)) (f_interval_Add:Int→Int→Int→Int→(Int×Int×Int)) (f_interval_Div:Int→Int→Int→Int→(Int×Int×Int)) (f_interval_Sub:Int→Int→Int→Int→(Int×Int×Int)) (f_interval_Mul:Int→Int→Int→Int→(Int×Int×Int)) (s0_0:Int) (a2_0:Int) (a2_1:Int) (a3_0:Int) (a3_1:Int):xfn Tryz.prog ⟨[(62,direction_calc_keep.sp f_direction_calc_keep),(122,interval_Add.sp f_interval_Add),(123,interval_Div.sp f_interval_Div),(124,interval_Sub.sp f_interval_Sub),(127,interval_Mul.sp f_interval_Mul)],[],[]⟩ [] 40 Tryz.f121 [.pointer (some ⟨0,0,none⟩),.func (.func 122) ⟨[]⟩ ⟨[]⟩,.agg ⟨[.int .i64 a2_0,.int .i64 a2_1]⟩,.agg ⟨[.int .i64 a3_0,.int .i64 a3_1]⟩] [.cs [.int .i64 s0_0] 98]=direction_calc_two_interval_Add.K f_direction_calc_keep f_interval_Add f_interval_Div f_interval_Sub f_interval_Mul s0_0 a2_0 a2_1 a3_0 a3_1 (fun r=>some (.agg ⟨[.int .i64 r.1,.int .i64 r.2.1]⟩,[.cs [.int .i64 r.2.2] 98])):=by kernel_rfl
def direction_calc_two_interval_Add (s0_0:Int) (a2_0:Int) (a2_1:Int) (a3_0:Int) (a3_1:Int):Int×Int×Int:=direction_calc_two_interval_Add.K direction_calc_keep interval_Add interval_Div interval_Sub interval_Mul s0_0 a2_0 a2_1 a3_0 a3_1 id
theorem direction_calc_two_interval_Add.nat {R:Type} (f_direction_calc_keep:Int→Int→Int→Int→(Int×Int×Int)) (f_interval_Add:Int→Int→Int→Int→(Int×Int×Int)) (f_interval_Div:Int→Int→Int→Int→(Int×Int×Int)) (f_interval_Sub:Int→Int→Int→Int→(Int×Int×Int)) (f_interval_Mul:Int→Int→Int→Int→(Int×Int×Int)) (s0_0:Int) (a2_0:Int) (a2_1:Int) (a3_0:Int) (a3_1:Int) (k:Int×Int×Int→R):direction_calc_two_interval_Add.K f_direction_calc_keep f_interval_Add f_interval_Div f_interval_Sub f_interval_Mul s0_0 a2_0 a2_1 a3_0 a3_1 k=k (direction_calc_two_interval_Add.K f_direction_calc_keep f_interval_Add f_interval_Div f_interval_Sub f_interval_Mul s0_0 a2_0 a2_1 a3_0 a3_1 id):=by
  simp only [direction_calc_two_interval_Add.K,acond k,id_eq]
theorem direction_calc_two_interval_Add.eq (s a b c d:Int):direction_calc_two_interval_Add s a b c d=st s a b (iadd a b c d):=by
  simp only [direction_calc_two_interval_Add,direction_calc_two_interval_Add.K,id_eq,interval_Add.eq,direction_calc_keep.eq,st]
  by_cases hs:s=0
  · subst hs; rfl
  · simp only [bne_of hs,cond_true]
def direction_calc_two_interval_Sub.K {R:Type} (f_direction_calc_keep:Int→Int→Int→Int→(Int×Int×Int)) (f_interval_Add:Int→Int→Int→Int→(Int×Int×Int)) (f_interval_Div:Int→Int→Int→Int→(Int×Int×Int)) (f_interval_Sub:Int→Int→Int→Int→(Int×Int×Int)) (f_interval_Mul:Int→Int→Int→Int→(Int×Int×Int)) (s0_0:Int) (a2_0:Int) (a2_1:Int) (a3_0:Int) (a3_1:Int) (k:Int×Int×Int→R):R:=
 bif s0_0 !=0 then k (a2_0,a2_1,s0_0) else
 let t0:=f_interval_Sub a2_0 a2_1 a3_0 a3_1
 let t1:=f_direction_calc_keep s0_0 t0.fst t0.snd.fst t0.snd.snd
 k (t1.fst,t1.snd.fst,t1.snd.snd)
set_option maxRecDepth 100000 in
theorem direction_calc_two_interval_Sub.run (f_direction_calc_keep:Int→Int→Int→Int→(Int×Int×Int)) (f_interval_Add:Int→Int→Int→Int→(Int×Int×Int)) (f_interval_Div:Int→Int→Int→Int→(Int×Int×Int)) (f_interval_Sub:Int→Int→Int→Int→(Int×Int×Int)) (f_interval_Mul:Int→Int→Int→Int→(Int×Int×Int)) (s0_0:Int) (a2_0:Int) (a2_1:Int) (a3_0:Int) (a3_1:Int):xfn Tryz.prog ⟨[(62,direction_calc_keep.sp f_direction_calc_keep),(122,interval_Add.sp f_interval_Add),(123,interval_Div.sp f_interval_Div),(124,interval_Sub.sp f_interval_Sub),(127,interval_Mul.sp f_interval_Mul)],[],[]⟩ [] 40 Tryz.f121 [.pointer (some ⟨0,0,none⟩),.func (.func 124) ⟨[]⟩ ⟨[]⟩,.agg ⟨[.int .i64 a2_0,.int .i64 a2_1]⟩,.agg ⟨[.int .i64 a3_0,.int .i64 a3_1]⟩] [.cs [.int .i64 s0_0] 98]=direction_calc_two_interval_Sub.K f_direction_calc_keep f_interval_Add f_interval_Div f_interval_Sub f_interval_Mul s0_0 a2_0 a2_1 a3_0 a3_1 (fun r=>some (.agg ⟨[.int .i64 r.1,.int .i64 r.2.1]⟩,[.cs [.int .i64 r.2.2] 98])):=by kernel_rfl
def direction_calc_two_interval_Sub (s0_0:Int) (a2_0:Int) (a2_1:Int) (a3_0:Int) (a3_1:Int):Int×Int×Int:=direction_calc_two_interval_Sub.K direction_calc_keep interval_Add interval_Div interval_Sub interval_Mul s0_0 a2_0 a2_1 a3_0 a3_1 id
theorem direction_calc_two_interval_Sub.nat {R:Type} (f_direction_calc_keep:Int→Int→Int→Int→(Int×Int×Int)) (f_interval_Add:Int→Int→Int→Int→(Int×Int×Int)) (f_interval_Div:Int→Int→Int→Int→(Int×Int×Int)) (f_interval_Sub:Int→Int→Int→Int→(Int×Int×Int)) (f_interval_Mul:Int→Int→Int→Int→(Int×Int×Int)) (s0_0:Int) (a2_0:Int) (a2_1:Int) (a3_0:Int) (a3_1:Int) (k:Int×Int×Int→R):direction_calc_two_interval_Sub.K f_direction_calc_keep f_interval_Add f_interval_Div f_interval_Sub f_interval_Mul s0_0 a2_0 a2_1 a3_0 a3_1 k=k (direction_calc_two_interval_Sub.K f_direction_calc_keep f_interval_Add f_interval_Div f_interval_Sub f_interval_Mul s0_0 a2_0 a2_1 a3_0 a3_1 id):=by
  simp only [direction_calc_two_interval_Sub.K,acond k,id_eq]
theorem direction_calc_two_interval_Sub.eq (s a b c d:Int):direction_calc_two_interval_Sub s a b c d=st s a b (isub a b c d):=by
  simp only [direction_calc_two_interval_Sub,direction_calc_two_interval_Sub.K,id_eq,interval_Sub.eq,direction_calc_keep.eq,st]
  by_cases hs:s=0
  · subst hs; rfl
  · simp only [bne_of hs,cond_true]
def direction_calc_two_interval_Mul.K {R:Type} (f_direction_calc_keep:Int→Int→Int→Int→(Int×Int×Int)) (f_interval_Add:Int→Int→Int→Int→(Int×Int×Int)) (f_interval_Div:Int→Int→Int→Int→(Int×Int×Int)) (f_interval_Sub:Int→Int→Int→Int→(Int×Int×Int)) (f_interval_Mul:Int→Int→Int→Int→(Int×Int×Int)) (s0_0:Int) (a2_0:Int) (a2_1:Int) (a3_0:Int) (a3_1:Int) (k:Int×Int×Int→R):R:=
 bif s0_0 !=0 then k (a2_0,a2_1,s0_0) else
 let t0:=f_interval_Mul a2_0 a2_1 a3_0 a3_1
 let t1:=f_direction_calc_keep s0_0 t0.fst t0.snd.fst t0.snd.snd
 k (t1.fst,t1.snd.fst,t1.snd.snd)
set_option maxRecDepth 100000 in
theorem direction_calc_two_interval_Mul.run (f_direction_calc_keep:Int→Int→Int→Int→(Int×Int×Int)) (f_interval_Add:Int→Int→Int→Int→(Int×Int×Int)) (f_interval_Div:Int→Int→Int→Int→(Int×Int×Int)) (f_interval_Sub:Int→Int→Int→Int→(Int×Int×Int)) (f_interval_Mul:Int→Int→Int→Int→(Int×Int×Int)) (s0_0:Int) (a2_0:Int) (a2_1:Int) (a3_0:Int) (a3_1:Int):xfn Tryz.prog ⟨[(62,direction_calc_keep.sp f_direction_calc_keep),(122,interval_Add.sp f_interval_Add),(123,interval_Div.sp f_interval_Div),(124,interval_Sub.sp f_interval_Sub),(127,interval_Mul.sp f_interval_Mul)],[],[]⟩ [] 40 Tryz.f121 [.pointer (some ⟨0,0,none⟩),.func (.func 127) ⟨[]⟩ ⟨[]⟩,.agg ⟨[.int .i64 a2_0,.int .i64 a2_1]⟩,.agg ⟨[.int .i64 a3_0,.int .i64 a3_1]⟩] [.cs [.int .i64 s0_0] 98]=direction_calc_two_interval_Mul.K f_direction_calc_keep f_interval_Add f_interval_Div f_interval_Sub f_interval_Mul s0_0 a2_0 a2_1 a3_0 a3_1 (fun r=>some (.agg ⟨[.int .i64 r.1,.int .i64 r.2.1]⟩,[.cs [.int .i64 r.2.2] 98])):=by kernel_rfl
def direction_calc_two_interval_Mul (s0_0:Int) (a2_0:Int) (a2_1:Int) (a3_0:Int) (a3_1:Int):Int×Int×Int:=direction_calc_two_interval_Mul.K direction_calc_keep interval_Add interval_Div interval_Sub interval_Mul s0_0 a2_0 a2_1 a3_0 a3_1 id
theorem direction_calc_two_interval_Mul.nat {R:Type} (f_direction_calc_keep:Int→Int→Int→Int→(Int×Int×Int)) (f_interval_Add:Int→Int→Int→Int→(Int×Int×Int)) (f_interval_Div:Int→Int→Int→Int→(Int×Int×Int)) (f_interval_Sub:Int→Int→Int→Int→(Int×Int×Int)) (f_interval_Mul:Int→Int→Int→Int→(Int×Int×Int)) (s0_0:Int) (a2_0:Int) (a2_1:Int) (a3_0:Int) (a3_1:Int) (k:Int×Int×Int→R):direction_calc_two_interval_Mul.K f_direction_calc_keep f_interval_Add f_interval_Div f_interval_Sub f_interval_Mul s0_0 a2_0 a2_1 a3_0 a3_1 k=k (direction_calc_two_interval_Mul.K f_direction_calc_keep f_interval_Add f_interval_Div f_interval_Sub f_interval_Mul s0_0 a2_0 a2_1 a3_0 a3_1 id):=by
  simp only [direction_calc_two_interval_Mul.K,acond k,id_eq]
theorem direction_calc_two_interval_Mul.eq (s a b c d:Int):direction_calc_two_interval_Mul s a b c d=st s a b (imul a b c d):=by
  simp only [direction_calc_two_interval_Mul,direction_calc_two_interval_Mul.K,id_eq,interval_Mul.eq,direction_calc_keep.eq,st]
  by_cases hs:s=0
  · subst hs; rfl
  · simp only [bne_of hs,cond_true]
def direction_calc_two_interval_Div.K {R:Type} (f_direction_calc_keep:Int→Int→Int→Int→(Int×Int×Int)) (f_interval_Add:Int→Int→Int→Int→(Int×Int×Int)) (f_interval_Div:Int→Int→Int→Int→(Int×Int×Int)) (f_interval_Sub:Int→Int→Int→Int→(Int×Int×Int)) (f_interval_Mul:Int→Int→Int→Int→(Int×Int×Int)) (s0_0:Int) (a2_0:Int) (a2_1:Int) (a3_0:Int) (a3_1:Int) (k:Int×Int×Int→R):R:=
 bif s0_0 !=0 then k (a2_0,a2_1,s0_0) else
 let t0:=f_interval_Div a2_0 a2_1 a3_0 a3_1
 let t1:=f_direction_calc_keep s0_0 t0.fst t0.snd.fst t0.snd.snd
 k (t1.fst,t1.snd.fst,t1.snd.snd)
set_option maxRecDepth 100000 in
theorem direction_calc_two_interval_Div.run (f_direction_calc_keep:Int→Int→Int→Int→(Int×Int×Int)) (f_interval_Add:Int→Int→Int→Int→(Int×Int×Int)) (f_interval_Div:Int→Int→Int→Int→(Int×Int×Int)) (f_interval_Sub:Int→Int→Int→Int→(Int×Int×Int)) (f_interval_Mul:Int→Int→Int→Int→(Int×Int×Int)) (s0_0:Int) (a2_0:Int) (a2_1:Int) (a3_0:Int) (a3_1:Int):xfn Tryz.prog ⟨[(62,direction_calc_keep.sp f_direction_calc_keep),(122,interval_Add.sp f_interval_Add),(123,interval_Div.sp f_interval_Div),(124,interval_Sub.sp f_interval_Sub),(127,interval_Mul.sp f_interval_Mul)],[],[]⟩ [] 40 Tryz.f121 [.pointer (some ⟨0,0,none⟩),.func (.func 123) ⟨[]⟩ ⟨[]⟩,.agg ⟨[.int .i64 a2_0,.int .i64 a2_1]⟩,.agg ⟨[.int .i64 a3_0,.int .i64 a3_1]⟩] [.cs [.int .i64 s0_0] 98]=direction_calc_two_interval_Div.K f_direction_calc_keep f_interval_Add f_interval_Div f_interval_Sub f_interval_Mul s0_0 a2_0 a2_1 a3_0 a3_1 (fun r=>some (.agg ⟨[.int .i64 r.1,.int .i64 r.2.1]⟩,[.cs [.int .i64 r.2.2] 98])):=by kernel_rfl
def direction_calc_two_interval_Div (s0_0:Int) (a2_0:Int) (a2_1:Int) (a3_0:Int) (a3_1:Int):Int×Int×Int:=direction_calc_two_interval_Div.K direction_calc_keep interval_Add interval_Div interval_Sub interval_Mul s0_0 a2_0 a2_1 a3_0 a3_1 id
theorem direction_calc_two_interval_Div.nat {R:Type} (f_direction_calc_keep:Int→Int→Int→Int→(Int×Int×Int)) (f_interval_Add:Int→Int→Int→Int→(Int×Int×Int)) (f_interval_Div:Int→Int→Int→Int→(Int×Int×Int)) (f_interval_Sub:Int→Int→Int→Int→(Int×Int×Int)) (f_interval_Mul:Int→Int→Int→Int→(Int×Int×Int)) (s0_0:Int) (a2_0:Int) (a2_1:Int) (a3_0:Int) (a3_1:Int) (k:Int×Int×Int→R):direction_calc_two_interval_Div.K f_direction_calc_keep f_interval_Add f_interval_Div f_interval_Sub f_interval_Mul s0_0 a2_0 a2_1 a3_0 a3_1 k=k (direction_calc_two_interval_Div.K f_direction_calc_keep f_interval_Add f_interval_Div f_interval_Sub f_interval_Mul s0_0 a2_0 a2_1 a3_0 a3_1 id):=by
  simp only [direction_calc_two_interval_Div.K,acond k,id_eq]
theorem direction_calc_two_interval_Div.eq (s a b c d:Int):direction_calc_two_interval_Div s a b c d=st s a b (idiv a b c d):=by
  simp only [direction_calc_two_interval_Div,direction_calc_two_interval_Div.K,id_eq,interval_Div.eq,direction_calc_keep.eq,st]
  by_cases hs:s=0
  · subst hs; rfl
  · simp only [bne_of hs,cond_true]
theorem direction_calc_two.ok:SOK Tryz.prog 121 (direction_calc_two.sp direction_calc_two_interval_Add direction_calc_two_interval_Sub direction_calc_two_interval_Mul direction_calc_two_interval_Div):=by
  refine sok_of (E:=⟨[(62,direction_calc_keep.sp direction_calc_keep),(122,interval_Add.sp interval_Add),(123,interval_Div.sp interval_Div),(124,interval_Sub.sp interval_Sub),(127,interval_Mul.sp interval_Mul)],[],[]⟩) (L:=[]) ⟨(specs_cons direction_calc_keep.ok (specs_cons interval_Add.ok (specs_cons interval_Div.ok (specs_cons interval_Sub.ok (specs_cons interval_Mul.ok specs_nil))))),inl_nil,mixed_ok,lps_nil⟩ 40 Tryz.func121 (by decide) rfl no_loops fun vs bl v bl' h=> ?_
  unfold direction_calc_two.sp at h
  split at h
  · rename_i a2_0 a2_1 a3_0 a3_1 s0_0
    simp only [Option.some.injEq,Prod.mk.injEq,true_and] at h
    obtain ⟨rfl,rfl⟩:=h
    refine ⟨?_,by simp [okV,Nat.blt],clo_spec 8 _ (by kernel_rfl),told_blk (by kernel_rfl)⟩
    refine (direction_calc_two_interval_Add.run direction_calc_keep interval_Add interval_Div interval_Sub interval_Mul s0_0 a2_0 a2_1 a3_0 a3_1).trans ?_
    refine (direction_calc_two_interval_Add.nat direction_calc_keep interval_Add interval_Div interval_Sub interval_Mul s0_0 a2_0 a2_1 a3_0 a3_1 _).trans ?_
    kernel_rfl
  · rename_i a2_0 a2_1 a3_0 a3_1 s0_0
    simp only [Option.some.injEq,Prod.mk.injEq,true_and] at h
    obtain ⟨rfl,rfl⟩:=h
    refine ⟨?_,by simp [okV,Nat.blt],clo_spec 8 _ (by kernel_rfl),told_blk (by kernel_rfl)⟩
    refine (direction_calc_two_interval_Sub.run direction_calc_keep interval_Add interval_Div interval_Sub interval_Mul s0_0 a2_0 a2_1 a3_0 a3_1).trans ?_
    refine (direction_calc_two_interval_Sub.nat direction_calc_keep interval_Add interval_Div interval_Sub interval_Mul s0_0 a2_0 a2_1 a3_0 a3_1 _).trans ?_
    kernel_rfl
  · rename_i a2_0 a2_1 a3_0 a3_1 s0_0
    simp only [Option.some.injEq,Prod.mk.injEq,true_and] at h
    obtain ⟨rfl,rfl⟩:=h
    refine ⟨?_,by simp [okV,Nat.blt],clo_spec 8 _ (by kernel_rfl),told_blk (by kernel_rfl)⟩
    refine (direction_calc_two_interval_Mul.run direction_calc_keep interval_Add interval_Div interval_Sub interval_Mul s0_0 a2_0 a2_1 a3_0 a3_1).trans ?_
    refine (direction_calc_two_interval_Mul.nat direction_calc_keep interval_Add interval_Div interval_Sub interval_Mul s0_0 a2_0 a2_1 a3_0 a3_1 _).trans ?_
    kernel_rfl
  · rename_i a2_0 a2_1 a3_0 a3_1 s0_0
    simp only [Option.some.injEq,Prod.mk.injEq,true_and] at h
    obtain ⟨rfl,rfl⟩:=h
    refine ⟨?_,by simp [okV,Nat.blt],clo_spec 8 _ (by kernel_rfl),told_blk (by kernel_rfl)⟩
    refine (direction_calc_two_interval_Div.run direction_calc_keep interval_Add interval_Div interval_Sub interval_Mul s0_0 a2_0 a2_1 a3_0 a3_1).trans ?_
    refine (direction_calc_two_interval_Div.nat direction_calc_keep interval_Add interval_Div interval_Sub interval_Mul s0_0 a2_0 a2_1 a3_0 a3_1 _).trans ?_
    kernel_rfl
  · cases h
def direction_calc_add.K {R:Type} (f_direction_calc_two_interval_Add:Int→Int→Int→Int→Int→(Int×Int×Int)) (f_direction_calc_two_interval_Sub:Int→Int→Int→Int→Int→(Int×Int×Int)) (f_direction_calc_two_interval_Mul:Int→Int→Int→Int→Int→(Int×Int×Int)) (f_direction_calc_two_interval_Div:Int→Int→Int→Int→Int→(Int×Int×Int)) (f_interval_Add:Int→Int→Int→Int→(Int×Int×Int)) (s0_0:Int) (a1_0:Int) (a1_1:Int) (a2_0:Int) (a2_1:Int) (k:Int×Int×Int→R):R:=
 let t0:=f_direction_calc_two_interval_Add s0_0 a1_0 a1_1 a2_0 a2_1
 k (t0.fst,t0.snd.fst,t0.snd.snd)
set_option maxRecDepth 100000 in
theorem direction_calc_add.run (f_direction_calc_two_interval_Add:Int→Int→Int→Int→Int→(Int×Int×Int)) (f_direction_calc_two_interval_Sub:Int→Int→Int→Int→Int→(Int×Int×Int)) (f_direction_calc_two_interval_Mul:Int→Int→Int→Int→Int→(Int×Int×Int)) (f_direction_calc_two_interval_Div:Int→Int→Int→Int→Int→(Int×Int×Int)) (f_interval_Add:Int→Int→Int→Int→(Int×Int×Int)) (s0_0:Int) (a1_0:Int) (a1_1:Int) (a2_0:Int) (a2_1:Int):xfn Tryz.prog ⟨[(121,direction_calc_two.sp f_direction_calc_two_interval_Add f_direction_calc_two_interval_Sub f_direction_calc_two_interval_Mul f_direction_calc_two_interval_Div),(122,interval_Add.sp f_interval_Add)],[],[]⟩ [] 40 Tryz.f68 [.pointer (some ⟨0,0,none⟩),.agg ⟨[.int .i64 a1_0,.int .i64 a1_1]⟩,.agg ⟨[.int .i64 a2_0,.int .i64 a2_1]⟩] [.cs [.int .i64 s0_0] 98]=direction_calc_add.K f_direction_calc_two_interval_Add f_direction_calc_two_interval_Sub f_direction_calc_two_interval_Mul f_direction_calc_two_interval_Div f_interval_Add s0_0 a1_0 a1_1 a2_0 a2_1 (fun r=>some (.agg ⟨[.int .i64 r.1,.int .i64 r.2.1]⟩,[.cs [.int .i64 r.2.2] 98])):=by kernel_rfl
def direction_calc_add (s0_0:Int) (a1_0:Int) (a1_1:Int) (a2_0:Int) (a2_1:Int):Int×Int×Int:=direction_calc_add.K direction_calc_two_interval_Add direction_calc_two_interval_Sub direction_calc_two_interval_Mul direction_calc_two_interval_Div interval_Add s0_0 a1_0 a1_1 a2_0 a2_1 id
theorem direction_calc_add.nat {R:Type} (f_direction_calc_two_interval_Add:Int→Int→Int→Int→Int→(Int×Int×Int)) (f_direction_calc_two_interval_Sub:Int→Int→Int→Int→Int→(Int×Int×Int)) (f_direction_calc_two_interval_Mul:Int→Int→Int→Int→Int→(Int×Int×Int)) (f_direction_calc_two_interval_Div:Int→Int→Int→Int→Int→(Int×Int×Int)) (f_interval_Add:Int→Int→Int→Int→(Int×Int×Int)) (s0_0:Int) (a1_0:Int) (a1_1:Int) (a2_0:Int) (a2_1:Int) (k:Int×Int×Int→R):direction_calc_add.K f_direction_calc_two_interval_Add f_direction_calc_two_interval_Sub f_direction_calc_two_interval_Mul f_direction_calc_two_interval_Div f_interval_Add s0_0 a1_0 a1_1 a2_0 a2_1 k=k (direction_calc_add.K f_direction_calc_two_interval_Add f_direction_calc_two_interval_Sub f_direction_calc_two_interval_Mul f_direction_calc_two_interval_Div f_interval_Add s0_0 a1_0 a1_1 a2_0 a2_1 id):=by
  simp only [direction_calc_add.K,acond k,id_eq]
theorem direction_calc_add.eq (s a b c d:Int):direction_calc_add s a b c d=st s a b (iadd a b c d):=by
  simp only [direction_calc_add,direction_calc_add.K,id_eq,direction_calc_two_interval_Add.eq]
theorem direction_calc_add.ok:SOK Tryz.prog 68 (direction_calc_add.sp direction_calc_add):=by
  refine sok_of (E:=⟨[(121,direction_calc_two.sp direction_calc_two_interval_Add direction_calc_two_interval_Sub direction_calc_two_interval_Mul direction_calc_two_interval_Div),(122,interval_Add.sp interval_Add)],[],[]⟩) (L:=[]) ⟨(specs_cons direction_calc_two.ok (specs_cons interval_Add.ok specs_nil)),inl_nil,mixed_ok,lps_nil⟩ 40 Tryz.func68 (by decide) rfl no_loops fun vs bl v bl' h=> ?_
  unfold direction_calc_add.sp at h
  split at h
  · rename_i a1_0 a1_1 a2_0 a2_1 s0_0
    simp only [Option.some.injEq,Prod.mk.injEq,true_and] at h
    obtain ⟨rfl,rfl⟩:=h
    refine ⟨?_,by simp [okV,Nat.blt],clo_spec 8 _ (by kernel_rfl),told_blk (by kernel_rfl)⟩
    refine (direction_calc_add.run direction_calc_two_interval_Add direction_calc_two_interval_Sub direction_calc_two_interval_Mul direction_calc_two_interval_Div interval_Add s0_0 a1_0 a1_1 a2_0 a2_1).trans ?_
    refine (direction_calc_add.nat direction_calc_two_interval_Add direction_calc_two_interval_Sub direction_calc_two_interval_Mul direction_calc_two_interval_Div interval_Add s0_0 a1_0 a1_1 a2_0 a2_1 _).trans ?_
    kernel_rfl
  · cases h
def direction_Add.K {R:Type} (f_direction_Valid:Int→Int→Int→Int→Int→Int→(Bool)) (f_direction_calc_box:Int→Int→Int→Int→Int→Int→Int→(Int×Int×Int×Int×Int×Int×Int×Int)) (f_direction_calc_add:Int→Int→Int→Int→Int→(Int×Int×Int)) (a0_0:Int) (a0_1:Int) (a0_2:Int) (a0_3:Int) (a0_4:Int) (a0_5:Int) (a1_0:Int) (a1_1:Int) (a1_2:Int) (a1_3:Int) (a1_4:Int) (a1_5:Int) (k:Int×Int×Int×Int×Int×Int×Int→R):R:=
 let t0:=f_direction_Valid a0_0 a0_1 a0_2 a0_3 a0_4 a0_5
 bif !t0 then k (0,0,0,0,0,0,1) else
 let t1:=f_direction_Valid a1_0 a1_1 a1_2 a1_3 a1_4 a1_5
 bif !t1 then k (0,0,0,0,0,0,1) else
 let t2:=f_direction_calc_add 0 a0_0 a0_1 a1_0 a1_1
 let t3:=f_direction_calc_add t2.snd.snd a0_2 a0_3 a1_2 a1_3
 let t4:=f_direction_calc_add t3.snd.snd a0_4 a0_5 a1_4 a1_5
 let t5:=f_direction_calc_box t4.snd.snd t2.fst t2.snd.fst t3.fst t3.snd.fst t4.fst t4.snd.fst
 k (t5.fst,t5.snd.fst,t5.snd.snd.fst,t5.snd.snd.snd.fst,t5.snd.snd.snd.snd.fst,t5.snd.snd.snd.snd.snd.fst,t5.snd.snd.snd.snd.snd.snd.fst)
set_option maxRecDepth 100000 in
theorem direction_Add.run (f_direction_Valid:Int→Int→Int→Int→Int→Int→(Bool)) (f_direction_calc_box:Int→Int→Int→Int→Int→Int→Int→(Int×Int×Int×Int×Int×Int×Int×Int)) (f_direction_calc_add:Int→Int→Int→Int→Int→(Int×Int×Int)) (a0_0:Int) (a0_1:Int) (a0_2:Int) (a0_3:Int) (a0_4:Int) (a0_5:Int) (a1_0:Int) (a1_1:Int) (a1_2:Int) (a1_3:Int) (a1_4:Int) (a1_5:Int):xfn Tryz.prog ⟨[(49,direction_Valid.sp f_direction_Valid),(64,direction_calc_box.sp f_direction_calc_box),(68,direction_calc_add.sp f_direction_calc_add)],[],[]⟩ [] 40 Tryz.f23 [.agg ⟨[.int .i64 a0_0,.int .i64 a0_1,.int .i64 a0_2,.int .i64 a0_3,.int .i64 a0_4,.int .i64 a0_5]⟩,.agg ⟨[.int .i64 a1_0,.int .i64 a1_1,.int .i64 a1_2,.int .i64 a1_3,.int .i64 a1_4,.int .i64 a1_5]⟩] []=direction_Add.K f_direction_Valid f_direction_calc_box f_direction_calc_add a0_0 a0_1 a0_2 a0_3 a0_4 a0_5 a1_0 a1_1 a1_2 a1_3 a1_4 a1_5 (fun r=>some (.tuple ⟨[.agg ⟨[.int .i64 r.1,.int .i64 r.2.1,.int .i64 r.2.2.1,.int .i64 r.2.2.2.1,.int .i64 r.2.2.2.2.1,.int .i64 r.2.2.2.2.2.1]⟩,.int .i64 r.2.2.2.2.2.2]⟩,[])):=by kernel_rfl
def direction_Add (a0_0:Int) (a0_1:Int) (a0_2:Int) (a0_3:Int) (a0_4:Int) (a0_5:Int) (a1_0:Int) (a1_1:Int) (a1_2:Int) (a1_3:Int) (a1_4:Int) (a1_5:Int):Int×Int×Int×Int×Int×Int×Int:=direction_Add.K direction_Valid direction_calc_box direction_calc_add a0_0 a0_1 a0_2 a0_3 a0_4 a0_5 a1_0 a1_1 a1_2 a1_3 a1_4 a1_5 id
theorem direction_Add.nat {R:Type} (f_direction_Valid:Int→Int→Int→Int→Int→Int→(Bool)) (f_direction_calc_box:Int→Int→Int→Int→Int→Int→Int→(Int×Int×Int×Int×Int×Int×Int×Int)) (f_direction_calc_add:Int→Int→Int→Int→Int→(Int×Int×Int)) (a0_0:Int) (a0_1:Int) (a0_2:Int) (a0_3:Int) (a0_4:Int) (a0_5:Int) (a1_0:Int) (a1_1:Int) (a1_2:Int) (a1_3:Int) (a1_4:Int) (a1_5:Int) (k:Int×Int×Int×Int×Int×Int×Int→R):direction_Add.K f_direction_Valid f_direction_calc_box f_direction_calc_add a0_0 a0_1 a0_2 a0_3 a0_4 a0_5 a1_0 a1_1 a1_2 a1_3 a1_4 a1_5 k=k (direction_Add.K f_direction_Valid f_direction_calc_box f_direction_calc_add a0_0 a0_1 a0_2 a0_3 a0_4 a0_5 a1_0 a1_1 a1_2 a1_3 a1_4 a1_5 id):=by
  simp only [direction_Add.K,acond k,id_eq]
theorem direction_Add.eq (a0 a1 a2 a3 a4 a5 b0 b1 b2 b3 b4 b5:Int):direction_Add a0 a1 a2 a3 a4 a5 b0 b1 b2 b3 b4 b5=o7 (dadd ((a0,a1),(a2,a3),(a4,a5)) ((b0,b1),(b2,b3),(b4,b5))):=by
  simp only [direction_Add,direction_Add.K,id_eq,direction_Valid.eq,direction_calc_add.eq,direction_calc_box,direction_calc_box.K,id_eq,dadd,dzip,addR]
  cases hV0:VB ((a0,a1),(a2,a3),(a4,a5)) with
  | false=>
    simp only [hV0,st0,kr0,st70,t3_ok,bind_ok,bind_er,o7,o3,o2,o11,V2_mk,kp0,cond_true,cond_false,Bool.not_true,Bool.not_false,Bool.false_and,Bool.and_false,Bool.true_and,Bool.and_true,bne_self_eq_false,beq_self_eq_true,if_true,if_false]
  | true=>
    cases hV1:VB ((b0,b1),(b2,b3),(b4,b5)) with
    | false=>
      simp only [hV0,hV1,st0,kr0,st70,t3_ok,bind_ok,bind_er,o7,o3,o2,o11,V2_mk,kp0,cond_true,cond_false,Bool.not_true,Bool.not_false,Bool.false_and,Bool.and_false,Bool.true_and,Bool.and_true,bne_self_eq_false,beq_self_eq_true,if_true,if_false]
    | true=>
      rcases t3c (iadd a0 a1 b0 b1) with ⟨x0,x1,h0⟩|⟨x0,x1,e0,n0,h0⟩
      · simp only [hV0,hV1,h0,st0,kr0,st70,t3_ok,bind_ok,bind_er,o7,o3,o2,o11,V2_mk,kp0,cond_true,cond_false,Bool.not_true,Bool.not_false,Bool.false_and,Bool.and_false,Bool.true_and,Bool.and_true,bne_self_eq_false,beq_self_eq_true,if_true,if_false]
        rcases t3c (iadd a2 a3 b2 b3) with ⟨y0,y1,h1⟩|⟨y0,y1,e1,n1,h1⟩
        · simp only [h1,st0,kr0,st70,t3_ok,bind_ok,bind_er,o7,o3,o2,o11,V2_mk,kp0,cond_true,cond_false,Bool.not_true,Bool.not_false,Bool.false_and,Bool.and_false,Bool.true_and,Bool.and_true,bne_self_eq_false,beq_self_eq_true,if_true,if_false]
          rcases t3c (iadd a4 a5 b4 b5) with ⟨z0,z1,h2⟩|⟨z0,z1,e2,n2,h2⟩
          · simp only [h2,st0,kr0,st70,t3_ok,bind_ok,bind_er,o7,o3,o2,o11,V2_mk,kp0,cond_true,cond_false,Bool.not_true,Bool.not_false,Bool.false_and,Bool.and_false,Bool.true_and,Bool.and_true,bne_self_eq_false,beq_self_eq_true,if_true,if_false]
          · simp only [h2,stE n2,krE n2,st7E n2,t3_er n2,bne_of n2,beq_of n2,kpn _ n2,st0,kr0,st70,t3_ok,bind_ok,bind_er,o7,o3,o2,o11,V2_mk,kp0,cond_true,cond_false,Bool.not_true,Bool.not_false,Bool.false_and,Bool.and_false,Bool.true_and,Bool.and_true,bne_self_eq_false,beq_self_eq_true,if_true,if_false]
        · simp only [h1,stE n1,krE n1,st7E n1,t3_er n1,bne_of n1,beq_of n1,kpn _ n1,st0,kr0,st70,t3_ok,bind_ok,bind_er,o7,o3,o2,o11,V2_mk,kp0,cond_true,cond_false,Bool.not_true,Bool.not_false,Bool.false_and,Bool.and_false,Bool.true_and,Bool.and_true,bne_self_eq_false,beq_self_eq_true,if_true,if_false]
      · simp only [hV0,hV1,h0,stE n0,krE n0,st7E n0,t3_er n0,bne_of n0,beq_of n0,kpn _ n0,st0,kr0,st70,t3_ok,bind_ok,bind_er,o7,o3,o2,o11,V2_mk,kp0,cond_true,cond_false,Bool.not_true,Bool.not_false,Bool.false_and,Bool.and_false,Bool.true_and,Bool.and_true,bne_self_eq_false,beq_self_eq_true,if_true,if_false]
theorem direction_Add.ok:SOK Tryz.prog 23 (direction_Add.sp direction_Add):=by
  refine sok_of (E:=⟨[(49,direction_Valid.sp direction_Valid),(64,direction_calc_box.sp direction_calc_box),(68,direction_calc_add.sp direction_calc_add)],[],[]⟩) (L:=[]) ⟨(specs_cons direction_Valid.ok (specs_cons direction_calc_box.ok (specs_cons direction_calc_add.ok specs_nil))),inl_nil,mixed_ok,lps_nil⟩ 40 Tryz.func23 (by decide) rfl no_loops fun vs bl v bl' h=> ?_
  unfold direction_Add.sp at h
  split at h
  · rename_i a0_0 a0_1 a0_2 a0_3 a0_4 a0_5 a1_0 a1_1 a1_2 a1_3 a1_4 a1_5
    simp only [Option.some.injEq,Prod.mk.injEq,true_and] at h
    obtain ⟨rfl,rfl⟩:=h
    refine ⟨?_,by simp [okV,Nat.blt],clo_spec 8 _ (by kernel_rfl),told_blk (by kernel_rfl)⟩
    refine (direction_Add.run direction_Valid direction_calc_box direction_calc_add a0_0 a0_1 a0_2 a0_3 a0_4 a0_5 a1_0 a1_1 a1_2 a1_3 a1_4 a1_5).trans ?_
    refine (direction_Add.nat direction_Valid direction_calc_box direction_calc_add a0_0 a0_1 a0_2 a0_3 a0_4 a0_5 a1_0 a1_1 a1_2 a1_3 a1_4 a1_5 _).trans ?_
    kernel_rfl
  · cases h
def culetref27_Valid.K {R:Type} (a0_0:Int) (a0_1:Int) (k:(Bool)→R):R:=
 bif decide (-1073741824≤a0_0) then bif decide (a0_0≤a0_1) then k (decide (a0_1≤1073741824)) else k (false) else k (false)
set_option maxRecDepth 100000 in
theorem culetref27_Valid.run (a0_0:Int) (a0_1:Int):xfn Tryz.prog ⟨[],[],[]⟩ [] 40 Tryz.f76 [.agg ⟨[.int .i64 a0_0,.int .i64 a0_1]⟩] []=culetref27_Valid.K a0_0 a0_1 (fun r=>some (.bool r,[])):=by kernel_rfl
def culetref27_Valid (a0_0:Int) (a0_1:Int):Bool:=culetref27_Valid.K a0_0 a0_1 id
theorem culetref27_Valid.nat {R:Type} (a0_0:Int) (a0_1:Int) (k:(Bool)→R):culetref27_Valid.K a0_0 a0_1 k=k (culetref27_Valid.K a0_0 a0_1 id):=by
  simp only [culetref27_Valid.K,acond k,id_eq]
theorem culetref27_Valid.eq (a b:Int):culetref27_Valid a b=V a b:=by
  simp only [culetref27_Valid,culetref27_Valid.K,id_eq,V]
  by_cases h1: -1073741824≤a<;>by_cases h2:a≤b<;>by_cases h3:b≤1073741824<;>simp [h1,h2,h3]
theorem culetref27_Valid.ok:SOK Tryz.prog 76 (culetref27_Valid.sp culetref27_Valid):=by
  refine sok_of (E:=⟨[],[],[]⟩) (L:=[]) ⟨specs_nil,inl_nil,mixed_ok,lps_nil⟩ 40 Tryz.func76 (by decide) rfl no_loops fun vs bl v bl' h=> ?_
  unfold culetref27_Valid.sp at h
  split at h
  · rename_i a0_0 a0_1
    simp only [Option.some.injEq,Prod.mk.injEq,true_and] at h
    obtain ⟨rfl,rfl⟩:=h
    refine ⟨?_,by simp [okV,Nat.blt],clo_spec 8 _ (by kernel_rfl),told_blk (by kernel_rfl)⟩
    refine (culetref27_Valid.run a0_0 a0_1).trans ?_
    refine (culetref27_Valid.nat a0_0 a0_1 _).trans ?_
    kernel_rfl
  · cases h
def culetref28_Valid.K {R:Type} (f_culetref27_Valid:Int→Int→(Bool)) (a0_0:Int) (a0_1:Int) (a0_2:Int) (a0_3:Int) (a0_4:Int) (a0_5:Int) (k:(Bool)→R):R:=
 let t0:=f_culetref27_Valid a0_0 a0_1
 bif t0 then
 let t1:=f_culetref27_Valid a0_2 a0_3
 bif t1 then
 let t2:=f_culetref27_Valid a0_4 a0_5
 k (t2) else k (false) else k (false)
set_option maxRecDepth 100000 in
theorem culetref28_Valid.run (f_culetref27_Valid:Int→Int→(Bool)) (a0_0:Int) (a0_1:Int) (a0_2:Int) (a0_3:Int) (a0_4:Int) (a0_5:Int):xfn Tryz.prog ⟨[(76,culetref27_Valid.sp f_culetref27_Valid)],[],[]⟩ [] 40 Tryz.f34 [.agg ⟨[.int .i64 a0_0,.int .i64 a0_1,.int .i64 a0_2,.int .i64 a0_3,.int .i64 a0_4,.int .i64 a0_5]⟩] []=culetref28_Valid.K f_culetref27_Valid a0_0 a0_1 a0_2 a0_3 a0_4 a0_5 (fun r=>some (.bool r,[])):=by kernel_rfl
def culetref28_Valid (a0_0:Int) (a0_1:Int) (a0_2:Int) (a0_3:Int) (a0_4:Int) (a0_5:Int):Bool:=culetref28_Valid.K culetref27_Valid a0_0 a0_1 a0_2 a0_3 a0_4 a0_5 id
theorem culetref28_Valid.nat {R:Type} (f_culetref27_Valid:Int→Int→(Bool)) (a0_0:Int) (a0_1:Int) (a0_2:Int) (a0_3:Int) (a0_4:Int) (a0_5:Int) (k:(Bool)→R):culetref28_Valid.K f_culetref27_Valid a0_0 a0_1 a0_2 a0_3 a0_4 a0_5 k=k (culetref28_Valid.K f_culetref27_Valid a0_0 a0_1 a0_2 a0_3 a0_4 a0_5 id):=by
  simp only [culetref28_Valid.K,acond k,id_eq]
theorem culetref28_Valid.eq (a0 a1 a2 a3 a4 a5:Int):culetref28_Valid a0 a1 a2 a3 a4 a5=VB ((a0,a1),(a2,a3),(a4,a5)):=by
  simp only [culetref28_Valid,culetref28_Valid.K,id_eq,culetref27_Valid.eq,VB,V2]
  cases V a0 a1<;>cases V a2 a3<;>cases V a4 a5<;>rfl
theorem culetref28_Valid.ok:SOK Tryz.prog 34 (culetref28_Valid.sp culetref28_Valid):=by
  refine sok_of (E:=⟨[(76,culetref27_Valid.sp culetref27_Valid)],[],[]⟩) (L:=[]) ⟨(specs_cons culetref27_Valid.ok specs_nil),inl_nil,mixed_ok,lps_nil⟩ 40 Tryz.func34 (by decide) rfl no_loops fun vs bl v bl' h=> ?_
  unfold culetref28_Valid.sp at h
  split at h
  · rename_i a0_0 a0_1 a0_2 a0_3 a0_4 a0_5
    simp only [Option.some.injEq,Prod.mk.injEq,true_and] at h
    obtain ⟨rfl,rfl⟩:=h
    refine ⟨?_,by simp [okV,Nat.blt],clo_spec 8 _ (by kernel_rfl),told_blk (by kernel_rfl)⟩
    refine (culetref28_Valid.run culetref27_Valid a0_0 a0_1 a0_2 a0_3 a0_4 a0_5).trans ?_
    refine (culetref28_Valid.nat culetref27_Valid a0_0 a0_1 a0_2 a0_3 a0_4 a0_5 _).trans ?_
    kernel_rfl
  · cases h
def culetref27_both.K {R:Type} (f_culetref27_Valid:Int→Int→(Bool)) (a0_0:Int) (a0_1:Int) (a1_0:Int) (a1_1:Int) (k:(Bool)→R):R:=
 let t0:=f_culetref27_Valid a0_0 a0_1
 bif t0 then
 let t1:=f_culetref27_Valid a1_0 a1_1
 k (t1) else k (false)
set_option maxRecDepth 100000 in
theorem culetref27_both.run (f_culetref27_Valid:Int→Int→(Bool)) (a0_0:Int) (a0_1:Int) (a1_0:Int) (a1_1:Int):xfn Tryz.prog ⟨[(76,culetref27_Valid.sp f_culetref27_Valid)],[],[]⟩ [] 40 Tryz.f82 [.agg ⟨[.int .i64 a0_0,.int .i64 a0_1]⟩,.agg ⟨[.int .i64 a1_0,.int .i64 a1_1]⟩] []=culetref27_both.K f_culetref27_Valid a0_0 a0_1 a1_0 a1_1 (fun r=>some (.bool r,[])):=by kernel_rfl
def culetref27_both (a0_0:Int) (a0_1:Int) (a1_0:Int) (a1_1:Int):Bool:=culetref27_both.K culetref27_Valid a0_0 a0_1 a1_0 a1_1 id
theorem culetref27_both.nat {R:Type} (f_culetref27_Valid:Int→Int→(Bool)) (a0_0:Int) (a0_1:Int) (a1_0:Int) (a1_1:Int) (k:(Bool)→R):culetref27_both.K f_culetref27_Valid a0_0 a0_1 a1_0 a1_1 k=k (culetref27_both.K f_culetref27_Valid a0_0 a0_1 a1_0 a1_1 id):=by
  simp only [culetref27_both.K,acond k,id_eq]
theorem culetref27_both.eq (a b c d:Int):culetref27_both a b c d=(V a b&&V c d):=by
  simp only [culetref27_both,culetref27_both.K,id_eq,culetref27_Valid.eq]
  cases V a b<;>simp
theorem culetref27_both.ok:SOK Tryz.prog 82 (culetref27_both.sp culetref27_both):=by
  refine sok_of (E:=⟨[(76,culetref27_Valid.sp culetref27_Valid)],[],[]⟩) (L:=[]) ⟨(specs_cons culetref27_Valid.ok specs_nil),inl_nil,mixed_ok,lps_nil⟩ 40 Tryz.func82 (by decide) rfl no_loops fun vs bl v bl' h=> ?_
  unfold culetref27_both.sp at h
  split at h
  · rename_i a0_0 a0_1 a1_0 a1_1
    simp only [Option.some.injEq,Prod.mk.injEq,true_and] at h
    obtain ⟨rfl,rfl⟩:=h
    refine ⟨?_,by simp [okV,Nat.blt],clo_spec 8 _ (by kernel_rfl),told_blk (by kernel_rfl)⟩
    refine (culetref27_both.run culetref27_Valid a0_0 a0_1 a1_0 a1_1).trans ?_
    refine (culetref27_both.nat culetref27_Valid a0_0 a0_1 a1_0 a1_1 _).trans ?_
    kernel_rfl
  · cases h
def culetlaw28_theirs.K {R:Type} (a0_0:Int) (a0_1:Int) (a0_2:Int) (a0_3:Int) (a0_4:Int) (a0_5:Int) (k:Int×Int×Int×Int×Int×Int→R):R:=
 k (a0_0,a0_1,a0_2,a0_3,a0_4,a0_5)
set_option maxRecDepth 100000 in
theorem culetlaw28_theirs.run (a0_0:Int) (a0_1:Int) (a0_2:Int) (a0_3:Int) (a0_4:Int) (a0_5:Int):xfn Tryz.prog ⟨[],[],[]⟩ [] 40 Tryz.f25 [.agg ⟨[.int .i64 a0_0,.int .i64 a0_1,.int .i64 a0_2,.int .i64 a0_3,.int .i64 a0_4,.int .i64 a0_5]⟩] []=culetlaw28_theirs.K a0_0 a0_1 a0_2 a0_3 a0_4 a0_5 (fun r=>some (.agg ⟨[.int .i64 r.1,.int .i64 r.2.1,.int .i64 r.2.2.1,.int .i64 r.2.2.2.1,.int .i64 r.2.2.2.2.1,.int .i64 r.2.2.2.2.2]⟩,[])):=by kernel_rfl
def culetlaw28_theirs (a0_0:Int) (a0_1:Int) (a0_2:Int) (a0_3:Int) (a0_4:Int) (a0_5:Int):Int×Int×Int×Int×Int×Int:=culetlaw28_theirs.K a0_0 a0_1 a0_2 a0_3 a0_4 a0_5 id
theorem culetlaw28_theirs.nat {R:Type} (a0_0:Int) (a0_1:Int) (a0_2:Int) (a0_3:Int) (a0_4:Int) (a0_5:Int) (k:Int×Int×Int×Int×Int×Int→R):culetlaw28_theirs.K a0_0 a0_1 a0_2 a0_3 a0_4 a0_5 k=k (culetlaw28_theirs.K a0_0 a0_1 a0_2 a0_3 a0_4 a0_5 id):=by
  simp only [culetlaw28_theirs.K,acond k,id_eq]
theorem culetlaw28_theirs.ok:SOK Tryz.prog 25 (culetlaw28_theirs.sp culetlaw28_theirs):=by
  refine sok_of (E:=⟨[],[],[]⟩) (L:=[]) ⟨specs_nil,inl_nil,mixed_ok,lps_nil⟩ 40 Tryz.func25 (by decide) rfl no_loops fun vs bl v bl' h=> ?_
  unfold culetlaw28_theirs.sp at h
  split at h
  · rename_i a0_0 a0_1 a0_2 a0_3 a0_4 a0_5
    simp only [Option.some.injEq,Prod.mk.injEq,true_and] at h
    obtain ⟨rfl,rfl⟩:=h
    refine ⟨?_,by simp [okV,Nat.blt],clo_spec 8 _ (by kernel_rfl),told_blk (by kernel_rfl)⟩
    refine (culetlaw28_theirs.run a0_0 a0_1 a0_2 a0_3 a0_4 a0_5).trans ?_
    refine (culetlaw28_theirs.nat a0_0 a0_1 a0_2 a0_3 a0_4 a0_5 _).trans ?_
    kernel_rfl
  · cases h
def direction_calc_sub.K {R:Type} (f_direction_calc_two_interval_Add:Int→Int→Int→Int→Int→(Int×Int×Int)) (f_direction_calc_two_interval_Sub:Int→Int→Int→Int→Int→(Int×Int×Int)) (f_direction_calc_two_interval_Mul:Int→Int→Int→Int→Int→(Int×Int×Int)) (f_direction_calc_two_interval_Div:Int→Int→Int→Int→Int→(Int×Int×Int)) (f_interval_Sub:Int→Int→Int→Int→(Int×Int×Int)) (s0_0:Int) (a1_0:Int) (a1_1:Int) (a2_0:Int) (a2_1:Int) (k:Int×Int×Int→R):R:=
 let t0:=f_direction_calc_two_interval_Sub s0_0 a1_0 a1_1 a2_0 a2_1
 k (t0.fst,t0.snd.fst,t0.snd.snd)
set_option maxRecDepth 100000 in
theorem direction_calc_sub.run (f_direction_calc_two_interval_Add:Int→Int→Int→Int→Int→(Int×Int×Int)) (f_direction_calc_two_interval_Sub:Int→Int→Int→Int→Int→(Int×Int×Int)) (f_direction_calc_two_interval_Mul:Int→Int→Int→Int→Int→(Int×Int×Int)) (f_direction_calc_two_interval_Div:Int→Int→Int→Int→Int→(Int×Int×Int)) (f_interval_Sub:Int→Int→Int→Int→(Int×Int×Int)) (s0_0:Int) (a1_0:Int) (a1_1:Int) (a2_0:Int) (a2_1:Int):xfn Tryz.prog ⟨[(121,direction_calc_two.sp f_direction_calc_two_interval_Add f_direction_calc_two_interval_Sub f_direction_calc_two_interval_Mul f_direction_calc_two_interval_Div),(124,interval_Sub.sp f_interval_Sub)],[],[]⟩ [] 40 Tryz.f70 [.pointer (some ⟨0,0,none⟩),.agg ⟨[.int .i64 a1_0,.int .i64 a1_1]⟩,.agg ⟨[.int .i64 a2_0,.int .i64 a2_1]⟩] [.cs [.int .i64 s0_0] 98]=direction_calc_sub.K f_direction_calc_two_interval_Add f_direction_calc_two_interval_Sub f_direction_calc_two_interval_Mul f_direction_calc_two_interval_Div f_interval_Sub s0_0 a1_0 a1_1 a2_0 a2_1 (fun r=>some (.agg ⟨[.int .i64 r.1,.int .i64 r.2.1]⟩,[.cs [.int .i64 r.2.2] 98])):=by kernel_rfl
def direction_calc_sub (s0_0:Int) (a1_0:Int) (a1_1:Int) (a2_0:Int) (a2_1:Int):Int×Int×Int:=direction_calc_sub.K direction_calc_two_interval_Add direction_calc_two_interval_Sub direction_calc_two_interval_Mul direction_calc_two_interval_Div interval_Sub s0_0 a1_0 a1_1 a2_0 a2_1 id
theorem direction_calc_sub.nat {R:Type} (f_direction_calc_two_interval_Add:Int→Int→Int→Int→Int→(Int×Int×Int)) (f_direction_calc_two_interval_Sub:Int→Int→Int→Int→Int→(Int×Int×Int)) (f_direction_calc_two_interval_Mul:Int→Int→Int→Int→Int→(Int×Int×Int)) (f_direction_calc_two_interval_Div:Int→Int→Int→Int→Int→(Int×Int×Int)) (f_interval_Sub:Int→Int→Int→Int→(Int×Int×Int)) (s0_0:Int) (a1_0:Int) (a1_1:Int) (a2_0:Int) (a2_1:Int) (k:Int×Int×Int→R):direction_calc_sub.K f_direction_calc_two_interval_Add f_direction_calc_two_interval_Sub f_direction_calc_two_interval_Mul f_direction_calc_two_interval_Div f_interval_Sub s0_0 a1_0 a1_1 a2_0 a2_1 k=k (direction_calc_sub.K f_direction_calc_two_interval_Add f_direction_calc_two_interval_Sub f_direction_calc_two_interval_Mul f_direction_calc_two_interval_Div f_interval_Sub s0_0 a1_0 a1_1 a2_0 a2_1 id):=by
  simp only [direction_calc_sub.K,acond k,id_eq]
theorem direction_calc_sub.eq (s a b c d:Int):direction_calc_sub s a b c d=st s a b (isub a b c d):=by
  simp only [direction_calc_sub,direction_calc_sub.K,id_eq,direction_calc_two_interval_Sub.eq]
theorem direction_calc_sub.ok:SOK Tryz.prog 70 (direction_calc_sub.sp direction_calc_sub):=by
  refine sok_of (E:=⟨[(121,direction_calc_two.sp direction_calc_two_interval_Add direction_calc_two_interval_Sub direction_calc_two_interval_Mul direction_calc_two_interval_Div),(124,interval_Sub.sp interval_Sub)],[],[]⟩) (L:=[]) ⟨(specs_cons direction_calc_two.ok (specs_cons interval_Sub.ok specs_nil)),inl_nil,mixed_ok,lps_nil⟩ 40 Tryz.func70 (by decide) rfl no_loops fun vs bl v bl' h=> ?_
  unfold direction_calc_sub.sp at h
  split at h
  · rename_i a1_0 a1_1 a2_0 a2_1 s0_0
    simp only [Option.some.injEq,Prod.mk.injEq,true_and] at h
    obtain ⟨rfl,rfl⟩:=h
    refine ⟨?_,by simp [okV,Nat.blt],clo_spec 8 _ (by kernel_rfl),told_blk (by kernel_rfl)⟩
    refine (direction_calc_sub.run direction_calc_two_interval_Add direction_calc_two_interval_Sub direction_calc_two_interval_Mul direction_calc_two_interval_Div interval_Sub s0_0 a1_0 a1_1 a2_0 a2_1).trans ?_
    refine (direction_calc_sub.nat direction_calc_two_interval_Add direction_calc_two_interval_Sub direction_calc_two_interval_Mul direction_calc_two_interval_Div interval_Sub s0_0 a1_0 a1_1 a2_0 a2_1 _).trans ?_
    kernel_rfl
  · cases h
def direction_Sub.K {R:Type} (f_direction_Valid:Int→Int→Int→Int→Int→Int→(Bool)) (f_direction_calc_box:Int→Int→Int→Int→Int→Int→Int→(Int×Int×Int×Int×Int×Int×Int×Int)) (f_direction_calc_sub:Int→Int→Int→Int→Int→(Int×Int×Int)) (a0_0:Int) (a0_1:Int) (a0_2:Int) (a0_3:Int) (a0_4:Int) (a0_5:Int) (a1_0:Int) (a1_1:Int) (a1_2:Int) (a1_3:Int) (a1_4:Int) (a1_5:Int) (k:Int×Int×Int×Int×Int×Int×Int→R):R:=
 let t0:=f_direction_Valid a0_0 a0_1 a0_2 a0_3 a0_4 a0_5
 bif !t0 then k (0,0,0,0,0,0,1) else
 let t1:=f_direction_Valid a1_0 a1_1 a1_2 a1_3 a1_4 a1_5
 bif !t1 then k (0,0,0,0,0,0,1) else
 let t2:=f_direction_calc_sub 0 a0_0 a0_1 a1_0 a1_1
 let t3:=f_direction_calc_sub t2.snd.snd a0_2 a0_3 a1_2 a1_3
 let t4:=f_direction_calc_sub t3.snd.snd a0_4 a0_5 a1_4 a1_5
 let t5:=f_direction_calc_box t4.snd.snd t2.fst t2.snd.fst t3.fst t3.snd.fst t4.fst t4.snd.fst
 k (t5.fst,t5.snd.fst,t5.snd.snd.fst,t5.snd.snd.snd.fst,t5.snd.snd.snd.snd.fst,t5.snd.snd.snd.snd.snd.fst,t5.snd.snd.snd.snd.snd.snd.fst)
set_option maxRecDepth 100000 in
theorem direction_Sub.run (f_direction_Valid:Int→Int→Int→Int→Int→Int→(Bool)) (f_direction_calc_box:Int→Int→Int→Int→Int→Int→Int→(Int×Int×Int×Int×Int×Int×Int×Int)) (f_direction_calc_sub:Int→Int→Int→Int→Int→(Int×Int×Int)) (a0_0:Int) (a0_1:Int) (a0_2:Int) (a0_3:Int) (a0_4:Int) (a0_5:Int) (a1_0:Int) (a1_1:Int) (a1_2:Int) (a1_3:Int) (a1_4:Int) (a1_5:Int):xfn Tryz.prog ⟨[(49,direction_Valid.sp f_direction_Valid),(64,direction_calc_box.sp f_direction_calc_box),(70,direction_calc_sub.sp f_direction_calc_sub)],[],[]⟩ [] 40 Tryz.f26 [.agg ⟨[.int .i64 a0_0,.int .i64 a0_1,.int .i64 a0_2,.int .i64 a0_3,.int .i64 a0_4,.int .i64 a0_5]⟩,.agg ⟨[.int .i64 a1_0,.int .i64 a1_1,.int .i64 a1_2,.int .i64 a1_3,.int .i64 a1_4,.int .i64 a1_5]⟩] []=direction_Sub.K f_direction_Valid f_direction_calc_box f_direction_calc_sub a0_0 a0_1 a0_2 a0_3 a0_4 a0_5 a1_0 a1_1 a1_2 a1_3 a1_4 a1_5 (fun r=>some (.tuple ⟨[.agg ⟨[.int .i64 r.1,.int .i64 r.2.1,.int .i64 r.2.2.1,.int .i64 r.2.2.2.1,.int .i64 r.2.2.2.2.1,.int .i64 r.2.2.2.2.2.1]⟩,.int .i64 r.2.2.2.2.2.2]⟩,[])):=by kernel_rfl
def direction_Sub (a0_0:Int) (a0_1:Int) (a0_2:Int) (a0_3:Int) (a0_4:Int) (a0_5:Int) (a1_0:Int) (a1_1:Int) (a1_2:Int) (a1_3:Int) (a1_4:Int) (a1_5:Int):Int×Int×Int×Int×Int×Int×Int:=direction_Sub.K direction_Valid direction_calc_box direction_calc_sub a0_0 a0_1 a0_2 a0_3 a0_4 a0_5 a1_0 a1_1 a1_2 a1_3 a1_4 a1_5 id
theorem direction_Sub.nat {R:Type} (f_direction_Valid:Int→Int→Int→Int→Int→Int→(Bool)) (f_direction_calc_box:Int→Int→Int→Int→Int→Int→Int→(Int×Int×Int×Int×Int×Int×Int×Int)) (f_direction_calc_sub:Int→Int→Int→Int→Int→(Int×Int×Int)) (a0_0:Int) (a0_1:Int) (a0_2:Int) (a0_3:Int) (a0_4:Int) (a0_5:Int) (a1_0:Int) (a1_1:Int) (a1_2:Int) (a1_3:Int) (a1_4:Int) (a1_5:Int) (k:Int×Int×Int×Int×Int×Int×Int→R):direction_Sub.K f_direction_Valid f_direction_calc_box f_direction_calc_sub a0_0 a0_1 a0_2 a0_3 a0_4 a0_5 a1_0 a1_1 a1_2 a1_3 a1_4 a1_5 k=k (direction_Sub.K f_direction_Valid f_direction_calc_box f_direction_calc_sub a0_0 a0_1 a0_2 a0_3 a0_4 a0_5 a1_0 a1_1 a1_2 a1_3 a1_4 a1_5 id):=by
  simp only [direction_Sub.K,acond k,id_eq]
theorem direction_Sub.eq (a0 a1 a2 a3 a4 a5 b0 b1 b2 b3 b4 b5:Int):direction_Sub a0 a1 a2 a3 a4 a5 b0 b1 b2 b3 b4 b5=o7 (dsub ((a0,a1),(a2,a3),(a4,a5)) ((b0,b1),(b2,b3),(b4,b5))):=by
  simp only [direction_Sub,direction_Sub.K,id_eq,direction_Valid.eq,direction_calc_sub.eq,direction_calc_box,direction_calc_box.K,id_eq,dsub,dzip,subR]
  cases hV0:VB ((a0,a1),(a2,a3),(a4,a5)) with
  | false=>
    simp only [hV0,st0,kr0,st70,t3_ok,bind_ok,bind_er,o7,o3,o2,o11,V2_mk,kp0,cond_true,cond_false,Bool.not_true,Bool.not_false,Bool.false_and,Bool.and_false,Bool.true_and,Bool.and_true,bne_self_eq_false,beq_self_eq_true,if_true,if_false]
  | true=>
    cases hV1:VB ((b0,b1),(b2,b3),(b4,b5)) with
    | false=>
      simp only [hV0,hV1,st0,kr0,st70,t3_ok,bind_ok,bind_er,o7,o3,o2,o11,V2_mk,kp0,cond_true,cond_false,Bool.not_true,Bool.not_false,Bool.false_and,Bool.and_false,Bool.true_and,Bool.and_true,bne_self_eq_false,beq_self_eq_true,if_true,if_false]
    | true=>
      rcases t3c (isub a0 a1 b0 b1) with ⟨x0,x1,h0⟩|⟨x0,x1,e0,n0,h0⟩
      · simp only [hV0,hV1,h0,st0,kr0,st70,t3_ok,bind_ok,bind_er,o7,o3,o2,o11,V2_mk,kp0,cond_true,cond_false,Bool.not_true,Bool.not_false,Bool.false_and,Bool.and_false,Bool.true_and,Bool.and_true,bne_self_eq_false,beq_self_eq_true,if_true,if_false]
        rcases t3c (isub a2 a3 b2 b3) with ⟨y0,y1,h1⟩|⟨y0,y1,e1,n1,h1⟩
        · simp only [h1,st0,kr0,st70,t3_ok,bind_ok,bind_er,o7,o3,o2,o11,V2_mk,kp0,cond_true,cond_false,Bool.not_true,Bool.not_false,Bool.false_and,Bool.and_false,Bool.true_and,Bool.and_true,bne_self_eq_false,beq_self_eq_true,if_true,if_false]
          rcases t3c (isub a4 a5 b4 b5) with ⟨z0,z1,h2⟩|⟨z0,z1,e2,n2,h2⟩
          · simp only [h2,st0,kr0,st70,t3_ok,bind_ok,bind_er,o7,o3,o2,o11,V2_mk,kp0,cond_true,cond_false,Bool.not_true,Bool.not_false,Bool.false_and,Bool.and_false,Bool.true_and,Bool.and_true,bne_self_eq_false,beq_self_eq_true,if_true,if_false]
          · simp only [h2,stE n2,krE n2,st7E n2,t3_er n2,bne_of n2,beq_of n2,kpn _ n2,st0,kr0,st70,t3_ok,bind_ok,bind_er,o7,o3,o2,o11,V2_mk,kp0,cond_true,cond_false,Bool.not_true,Bool.not_false,Bool.false_and,Bool.and_false,Bool.true_and,Bool.and_true,bne_self_eq_false,beq_self_eq_true,if_true,if_false]
        · simp only [h1,stE n1,krE n1,st7E n1,t3_er n1,bne_of n1,beq_of n1,kpn _ n1,st0,kr0,st70,t3_ok,bind_ok,bind_er,o7,o3,o2,o11,V2_mk,kp0,cond_true,cond_false,Bool.not_true,Bool.not_false,Bool.false_and,Bool.and_false,Bool.true_and,Bool.and_true,bne_self_eq_false,beq_self_eq_true,if_true,if_false]
      · simp only [hV0,hV1,h0,stE n0,krE n0,st7E n0,t3_er n0,bne_of n0,beq_of n0,kpn _ n0,st0,kr0,st70,t3_ok,bind_ok,bind_er,o7,o3,o2,o11,V2_mk,kp0,cond_true,cond_false,Bool.not_true,Bool.not_false,Bool.false_and,Bool.and_false,Bool.true_and,Bool.and_true,bne_self_eq_false,beq_self_eq_true,if_true,if_false]
theorem direction_Sub.ok:SOK Tryz.prog 26 (direction_Sub.sp direction_Sub):=by
  refine sok_of (E:=⟨[(49,direction_Valid.sp direction_Valid),(64,direction_calc_box.sp direction_calc_box),(70,direction_calc_sub.sp direction_calc_sub)],[],[]⟩) (L:=[]) ⟨(specs_cons direction_Valid.ok (specs_cons direction_calc_box.ok (specs_cons direction_calc_sub.ok specs_nil))),inl_nil,mixed_ok,lps_nil⟩ 40 Tryz.func26 (by decide) rfl no_loops fun vs bl v bl' h=> ?_
  unfold direction_Sub.sp at h
  split at h
  · rename_i a0_0 a0_1 a0_2 a0_3 a0_4 a0_5 a1_0 a1_1 a1_2 a1_3 a1_4 a1_5
    simp only [Option.some.injEq,Prod.mk.injEq,true_and] at h
    obtain ⟨rfl,rfl⟩:=h
    refine ⟨?_,by simp [okV,Nat.blt],clo_spec 8 _ (by kernel_rfl),told_blk (by kernel_rfl)⟩
    refine (direction_Sub.run direction_Valid direction_calc_box direction_calc_sub a0_0 a0_1 a0_2 a0_3 a0_4 a0_5 a1_0 a1_1 a1_2 a1_3 a1_4 a1_5).trans ?_
    refine (direction_Sub.nat direction_Valid direction_calc_box direction_calc_sub a0_0 a0_1 a0_2 a0_3 a0_4 a0_5 a1_0 a1_1 a1_2 a1_3 a1_4 a1_5 _).trans ?_
    kernel_rfl
  · cases h
end Go.Proofs.YtpejalpgficopaaGreatDoor.G
end
