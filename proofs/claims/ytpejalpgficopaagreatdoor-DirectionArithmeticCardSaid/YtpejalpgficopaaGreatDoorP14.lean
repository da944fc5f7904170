/- A part of what the law's proof leans on. PACKED BY pack.py of this repo. -/
import Derived.Test.YtpejalpgficopaaGreatDoorP13
section
namespace Go.Proofs.YtpejalpgficopaaGreatDoor.G
open Go Go.Proofs Go.RowKit RX
set_option linter.unusedVariables false
set_option linter.unusedSimpArgs false
def direction_calc_mul.K {R:Type} (f_direction_calc_two_interval_Add:Int→Int→Int→Int→Int→(Int×Int×Int)) (f_direction_calc_two_interval_Sub:Int→Int→Int→Int→Int→(Int×Int×Int)) (f_direction_calc_two_interval_Mul:Int→Int→Int→Int→Int→(Int×Int×Int)) (f_direction_calc_two_interval_Div:Int→Int→Int→Int→Int→(Int×Int×Int)) (f_interval_Mul:Int→Int→Int→Int→(Int×Int×Int)) (s0_0:Int) (a1_0:Int) (a1_1:Int) (a2_0:Int) (a2_1:Int) (k:Int×Int×Int→R):R:=
 let t0:=f_direction_calc_two_interval_Mul s0_0 a1_0 a1_1 a2_0 a2_1
 k (t0.fst,t0.snd.fst,t0.snd.snd)
set_option maxRecDepth 100000 in
theorem direction_calc_mul.run (f_direction_calc_two_interval_Add:Int→Int→Int→Int→Int→(Int×Int×Int)) (f_direction_calc_two_interval_Sub:Int→Int→Int→Int→Int→(Int×Int×Int)) (f_direction_calc_two_interval_Mul:Int→Int→Int→Int→Int→(Int×Int×Int)) (f_direction_calc_two_interval_Div:Int→Int→Int→Int→Int→(Int×Int×Int)) (f_interval_Mul:Int→Int→Int→Int→(Int×Int×Int)) (s0_0:Int) (a1_0:Int) (a1_1:Int) (a2_0:Int) (a2_1:Int):xfn Tryz.prog ⟨[(121,direction_calc_two.sp f_direction_calc_two_interval_Add f_direction_calc_two_interval_Sub f_direction_calc_two_interval_Mul f_direction_calc_two_interval_Div),(127,interval_Mul.sp f_interval_Mul)],[],[]⟩ [] 40 Tryz.f75 [.pointer (some ⟨0,0,none⟩),.agg ⟨[.int .i64 a1_0,.int .i64 a1_1]⟩,.agg ⟨[.int .i64 a2_0,.int .i64 a2_1]⟩] [.cs [.int .i64 s0_0] 98]=direction_calc_mul.K f_direction_calc_two_interval_Add f_direction_calc_two_interval_Sub f_direction_calc_two_interval_Mul f_direction_calc_two_interval_Div f_interval_Mul s0_0 a1_0 a1_1 a2_0 a2_1 (fun r=>some (.agg ⟨[.int .i64 r.1,.int .i64 r.2.1]⟩,[.cs [.int .i64 r.2.2] 98])):=by kernel_rfl
def direction_calc_mul (s0_0:Int) (a1_0:Int) (a1_1:Int) (a2_0:Int) (a2_1:Int):Int×Int×Int:=direction_calc_mul.K direction_calc_two_interval_Add direction_calc_two_interval_Sub direction_calc_two_interval_Mul direction_calc_two_interval_Div interval_Mul s0_0 a1_0 a1_1 a2_0 a2_1 id
theorem direction_calc_mul.nat {R:Type} (f_direction_calc_two_interval_Add:Int→Int→Int→Int→Int→(Int×Int×Int)) (f_direction_calc_two_interval_Sub:Int→Int→Int→Int→Int→(Int×Int×Int)) (f_direction_calc_two_interval_Mul:Int→Int→Int→Int→Int→(Int×Int×Int)) (f_direction_calc_two_interval_Div:Int→Int→Int→Int→Int→(Int×Int×Int)) (f_interval_Mul:Int→Int→Int→Int→(Int×Int×Int)) (s0_0:Int) (a1_0:Int) (a1_1:Int) (a2_0:Int) (a2_1:Int) (k:Int×Int×Int→R):direction_calc_mul.K f_direction_calc_two_interval_Add f_direction_calc_two_interval_Sub f_direction_calc_two_interval_Mul f_direction_calc_two_interval_Div f_interval_Mul s0_0 a1_0 a1_1 a2_0 a2_1 k=k (direction_calc_mul.K f_direction_calc_two_interval_Add f_direction_calc_two_interval_Sub f_direction_calc_two_interval_Mul f_direction_calc_two_interval_Div f_interval_Mul s0_0 a1_0 a1_1 a2_0 a2_1 id):=by
  simp only [direction_calc_mul.K,acond k,id_eq]
theorem direction_calc_mul.eq (s a b c d:Int):direction_calc_mul s a b c d=st s a b (imul a b c d):=by
  simp only [direction_calc_mul,direction_calc_mul.K,id_eq,direction_calc_two_interval_Mul.eq]
theorem direction_calc_mul.ok:SOK Tryz.prog 75 (direction_calc_mul.sp direction_calc_mul):=by
  refine sok_of (E:=⟨[(121,direction_calc_two.sp direction_calc_two_interval_Add direction_calc_two_interval_Sub direction_calc_two_interval_Mul direction_calc_two_interval_Div),(127,interval_Mul.sp interval_Mul)],[],[]⟩) (L:=[]) ⟨(specs_cons direction_calc_two.ok (specs_cons interval_Mul.ok specs_nil)),inl_nil,mixed_ok,lps_nil⟩ 40 Tryz.func75 (by decide) rfl no_loops fun vs bl v bl' h=> ?_
  unfold direction_calc_mul.sp at h
  split at h
  · rename_i a1_0 a1_1 a2_0 a2_1 s0_0
    simp only [Option.some.injEq,Prod.mk.injEq,true_and] at h
    obtain ⟨rfl,rfl⟩:=h
    refine ⟨?_,by simp [okV,Nat.blt],clo_spec 8 _ (by kernel_rfl),told_blk (by kernel_rfl)⟩
    refine (direction_calc_mul.run direction_calc_two_interval_Add direction_calc_two_interval_Sub direction_calc_two_interval_Mul direction_calc_two_interval_Div interval_Mul s0_0 a1_0 a1_1 a2_0 a2_1).trans ?_
    refine (direction_calc_mul.nat direction_calc_two_interval_Add direction_calc_two_interval_Sub direction_calc_two_interval_Mul direction_calc_two_interval_Div interval_Mul s0_0 a1_0 a1_1 a2_0 a2_1 _).trans ?_
    kernel_rfl
  · cases h
def direction_Scale.K {R:Type} (f_direction_Valid:Int→Int→Int→Int→Int→Int→(Bool)) (f_direction_calc_box:Int→Int→Int→Int→Int→Int→Int→(Int×Int×Int×Int×Int×Int×Int×Int)) (f_interval_Valid:Int→Int→(Bool)) (f_direction_calc_mul:Int→Int→Int→Int→Int→(Int×Int×Int)) (a0_0:Int) (a0_1:Int) (a0_2:Int) (a0_3:Int) (a0_4:Int) (a0_5:Int) (a1_0:Int) (a1_1:Int) (k:Int×Int×Int×Int×Int×Int×Int→R):R:=
 let t0:=f_direction_Valid a0_0 a0_1 a0_2 a0_3 a0_4 a0_5
 bif !t0 then k (0,0,0,0,0,0,1) else
 let t1:=f_interval_Valid a1_0 a1_1
 bif !t1 then k (0,0,0,0,0,0,1) else
 let t2:=f_direction_calc_mul 0 a0_0 a0_1 a1_0 a1_1
 let t3:=f_direction_calc_mul t2.snd.snd a0_2 a0_3 a1_0 a1_1
 let t4:=f_direction_calc_mul t3.snd.snd a0_4 a0_5 a1_0 a1_1
 let t5:=f_direction_calc_box t4.snd.snd t2.fst t2.snd.fst t3.fst t3.snd.fst t4.fst t4.snd.fst
 k (t5.fst,t5.snd.fst,t5.snd.snd.fst,t5.snd.snd.snd.fst,t5.snd.snd.snd.snd.fst,t5.snd.snd.snd.snd.snd.fst,t5.snd.snd.snd.snd.snd.snd.fst)
set_option maxRecDepth 100000 in
theorem direction_Scale.run (f_direction_Valid:Int→Int→Int→Int→Int→Int→(Bool)) (f_direction_calc_box:Int→Int→Int→Int→Int→Int→Int→(Int×Int×Int×Int×Int×Int×Int×Int)) (f_interval_Valid:Int→Int→(Bool)) (f_direction_calc_mul:Int→Int→Int→Int→Int→(Int×Int×Int)) (a0_0:Int) (a0_1:Int) (a0_2:Int) (a0_3:Int) (a0_4:Int) (a0_5:Int) (a1_0:Int) (a1_1:Int):xfn Tryz.prog ⟨[(49,direction_Valid.sp f_direction_Valid),(64,direction_calc_box.sp f_direction_calc_box),(65,interval_Valid.sp f_interval_Valid),(75,direction_calc_mul.sp f_direction_calc_mul)],[],[]⟩ [] 40 Tryz.f28 [.agg ⟨[.int .i64 a0_0,.int .i64 a0_1,.int .i64 a0_2,.int .i64 a0_3,.int .i64 a0_4,.int .i64 a0_5]⟩,.agg ⟨[.int .i64 a1_0,.int .i64 a1_1]⟩] []=direction_Scale.K f_direction_Valid f_direction_calc_box f_interval_Valid f_direction_calc_mul a0_0 a0_1 a0_2 a0_3 a0_4 a0_5 a1_0 a1_1 (fun r=>some (.tuple ⟨[.agg ⟨[.int .i64 r.1,.int .i64 r.2.1,.int .i64 r.2.2.1,.int .i64 r.2.2.2.1,.int .i64 r.2.2.2.2.1,.int .i64 r.2.2.2.2.2.1]⟩,.int .i64 r.2.2.2.2.2.2]⟩,[])):=by kernel_rfl
def direction_Scale (a0_0:Int) (a0_1:Int) (a0_2:Int) (a0_3:Int) (a0_4:Int) (a0_5:Int) (a1_0:Int) (a1_1:Int):Int×Int×Int×Int×Int×Int×Int:=direction_Scale.K direction_Valid direction_calc_box interval_Valid direction_calc_mul a0_0 a0_1 a0_2 a0_3 a0_4 a0_5 a1_0 a1_1 id
theorem direction_Scale.nat {R:Type} (f_direction_Valid:Int→Int→Int→Int→Int→Int→(Bool)) (f_direction_calc_box:Int→Int→Int→Int→Int→Int→Int→(Int×Int×Int×Int×Int×Int×Int×Int)) (f_interval_Valid:Int→Int→(Bool)) (f_direction_calc_mul:Int→Int→Int→Int→Int→(Int×Int×Int)) (a0_0:Int) (a0_1:Int) (a0_2:Int) (a0_3:Int) (a0_4:Int) (a0_5:Int) (a1_0:Int) (a1_1:Int) (k:Int×Int×Int×Int×Int×Int×Int→R):direction_Scale.K f_direction_Valid f_direction_calc_box f_interval_Valid f_direction_calc_mul a0_0 a0_1 a0_2 a0_3 a0_4 a0_5 a1_0 a1_1 k=k (direction_Scale.K f_direction_Valid f_direction_calc_box f_interval_Valid f_direction_calc_mul a0_0 a0_1 a0_2 a0_3 a0_4 a0_5 a1_0 a1_1 id):=by
  simp only [direction_Scale.K,acond k,id_eq]
theorem direction_Scale.eq (a0 a1 a2 a3 a4 a5 r0 r1:Int):direction_Scale a0 a1 a2 a3 a4 a5 r0 r1=o7 (dscale ((a0,a1),(a2,a3),(a4,a5)) (r0,r1)):=by
  simp only [direction_Scale,direction_Scale.K,id_eq,direction_Valid.eq,direction_calc_mul.eq,interval_Valid.eq,direction_calc_box,direction_calc_box.K,id_eq,dscale,dzip,mulR,V2]
  cases hV0:VB ((a0,a1),(a2,a3),(a4,a5)) with
  | false=>
    simp only [hV0,st0,kr0,st70,t3_ok,bind_ok,bind_er,o7,o3,o2,o11,V2_mk,kp0,cond_true,cond_false,Bool.not_true,Bool.not_false,Bool.false_and,Bool.and_false,Bool.true_and,Bool.and_true,bne_self_eq_false,beq_self_eq_true,if_true,if_false]
  | true=>
    cases hV1:V r0 r1 with
    | false=>
      simp only [hV0,hV1,st0,kr0,st70,t3_ok,bind_ok,bind_er,o7,o3,o2,o11,V2_mk,kp0,cond_true,cond_false,Bool.not_true,Bool.not_false,Bool.false_and,Bool.and_false,Bool.true_and,Bool.and_true,bne_self_eq_false,beq_self_eq_true,if_true,if_false]
    | true=>
      rcases t3c (imul a0 a1 r0 r1) with ⟨x0,x1,h0⟩|⟨x0,x1,e0,n0,h0⟩
      · simp only [hV0,hV1,h0,st0,kr0,st70,t3_ok,bind_ok,bind_er,o7,o3,o2,o11,V2_mk,kp0,cond_true,cond_false,Bool.not_true,Bool.not_false,Bool.false_and,Bool.and_false,Bool.true_and,Bool.and_true,bne_self_eq_false,beq_self_eq_true,if_true,if_false]
        rcases t3c (imul a2 a3 r0 r1) with ⟨y0,y1,h1⟩|⟨y0,y1,e1,n1,h1⟩
        · simp only [h1,st0,kr0,st70,t3_ok,bind_ok,bind_er,o7,o3,o2,o11,V2_mk,kp0,cond_true,cond_false,Bool.not_true,Bool.not_false,Bool.false_and,Bool.and_false,Bool.true_and,Bool.and_true,bne_self_eq_false,beq_self_eq_true,if_true,if_false]
          rcases t3c (imul a4 a5 r0 r1) with ⟨z0,z1,h2⟩|⟨z0,z1,e2,n2,h2⟩
          · simp only [h2,st0,kr0,st70,t3_ok,bind_ok,bind_er,o7,o3,o2,o11,V2_mk,kp0,cond_true,cond_false,Bool.not_true,Bool.not_false,Bool.false_and,Bool.and_false,Bool.true_and,Bool.and_true,bne_self_eq_false,beq_self_eq_true,if_true,if_false]
          · simp only [h2,stE n2,krE n2,st7E n2,t3_er n2,bne_of n2,beq_of n2,kpn _ n2,st0,kr0,st70,t3_ok,bind_ok,bind_er,o7,o3,o2,o11,V2_mk,kp0,cond_true,cond_false,Bool.not_true,Bool.not_false,Bool.false_and,Bool.and_false,Bool.true_and,Bool.and_true,bne_self_eq_false,beq_self_eq_true,if_true,if_false]
        · simp only [h1,stE n1,krE n1,st7E n1,t3_er n1,bne_of n1,beq_of n1,kpn _ n1,st0,kr0,st70,t3_ok,bind_ok,bind_er,o7,o3,o2,o11,V2_mk,kp0,cond_true,cond_false,Bool.not_true,Bool.not_false,Bool.false_and,Bool.and_false,Bool.true_and,Bool.and_true,bne_self_eq_false,beq_self_eq_true,if_true,if_false]
      · simp only [hV0,hV1,h0,stE n0,krE n0,st7E n0,t3_er n0,bne_of n0,beq_of n0,kpn _ n0,st0,kr0,st70,t3_ok,bind_ok,bind_er,o7,o3,o2,o11,V2_mk,kp0,cond_true,cond_false,Bool.not_true,Bool.not_false,Bool.false_and,Bool.and_false,Bool.true_and,Bool.and_true,bne_self_eq_false,beq_self_eq_true,if_true,if_false]
theorem direction_Scale.ok:SOK Tryz.prog 28 (direction_Scale.sp direction_Scale):=by
  refine sok_of (E:=⟨[(49,direction_Valid.sp direction_Valid),(64,direction_calc_box.sp direction_calc_box),(65,interval_Valid.sp interval_Valid),(75,direction_calc_mul.sp direction_calc_mul)],[],[]⟩) (L:=[]) ⟨(specs_cons direction_Valid.ok (specs_cons direction_calc_box.ok (specs_cons interval_Valid.ok (specs_cons direction_calc_mul.ok specs_nil)))),inl_nil,mixed_ok,lps_nil⟩ 40 Tryz.func28 (by decide) rfl no_loops fun vs bl v bl' h=> ?_
  unfold direction_Scale.sp at h
  split at h
  · rename_i a0_0 a0_1 a0_2 a0_3 a0_4 a0_5 a1_0 a1_1
    simp only [Option.some.injEq,Prod.mk.injEq,true_and] at h
    obtain ⟨rfl,rfl⟩:=h
    refine ⟨?_,by simp [okV,Nat.blt],clo_spec 8 _ (by kernel_rfl),told_blk (by kernel_rfl)⟩
    refine (direction_Scale.run direction_Valid direction_calc_box interval_Valid direction_calc_mul a0_0 a0_1 a0_2 a0_3 a0_4 a0_5 a1_0 a1_1).trans ?_
    refine (direction_Scale.nat direction_Valid direction_calc_box interval_Valid direction_calc_mul a0_0 a0_1 a0_2 a0_3 a0_4 a0_5 a1_0 a1_1 _).trans ?_
    kernel_rfl
  · cases h
def culetref27_floor.K {R:Type} (a0:Int) (a1:Int) (k:(Int)→Option R):Option R:=
 bif decide (a1<0) then bif IntKind.i64.wrap (0-a1) !=0 then bif decide (IntKind.i64.wrap (IntKind.i64.wrap ((IntKind.i64.wrap (0-a0)).tdiv (IntKind.i64.wrap (0-a1)))*IntKind.i64.wrap (0-a1))>IntKind.i64.wrap (0-a0)) then k (IntKind.i64.wrap (IntKind.i64.wrap ((IntKind.i64.wrap (0-a0)).tdiv (IntKind.i64.wrap (0-a1)))-1)) else k (IntKind.i64.wrap ((IntKind.i64.wrap (0-a0)).tdiv (IntKind.i64.wrap (0-a1)))) else none else bif a1 !=0 then bif decide (IntKind.i64.wrap (IntKind.i64.wrap (a0.tdiv a1)*a1)>a0) then k (IntKind.i64.wrap (IntKind.i64.wrap (a0.tdiv a1)-1)) else k (IntKind.i64.wrap (a0.tdiv a1)) else none
set_option maxRecDepth 100000 in
theorem culetref27_floor.run (a0:Int) (a1:Int):xfn Tryz.prog ⟨[],[],[]⟩ [] 40 Tryz.f146 [.int .i64 a0,.int .i64 a1] []=culetref27_floor.K a0 a1 (fun r=>some (.int .i64 r,[])):=by kernel_rfl
def culetref27_floor.o (a0:Int) (a1:Int):Option (Int):=culetref27_floor.K a0 a1 some
def culetref27_floor (a0:Int) (a1:Int):Int:=(culetref27_floor.o a0 a1).getD default
theorem culetref27_floor.nat {R:Type} (a0:Int) (a1:Int) (k:(Int)→Option R):culetref27_floor.K a0 a1 k=(culetref27_floor.K a0 a1 some).bind k:=by
  simp only [culetref27_floor.K,bcond,Option.bind_some,Option.bind_none]
theorem ref_floor_pos {a b:Int} (hb:0<b) (h1: -4611686018427387904≤a) (h2:a≤4611686018427387904):(bif decide (IntKind.i64.wrap (IntKind.i64.wrap (a.tdiv b)*b)>a) then some (IntKind.i64.wrap (IntKind.i64.wrap (a.tdiv b)-1)) else some (IntKind.i64.wrap (a.tdiv b)))=some (a/b):=by
  have hq:=tdiv_bnd hb h1 h2
  have hd:a.tdiv b=a/b+if 0≤a∨b∣a then 0 else b.sign:=Int.tdiv_eq_ediv
  rw [Int.sign_eq_one_of_pos hb] at hd
  have hs:=fl_spec (x:=a) hb
  by_cases hv:0≤a∨b∣a
  · simp only [hv,if_true,Int.add_zero] at hd
    rw [hd,w64 (n:=a/b) (by omega) (by omega)]
    by_cases ha:0≤a
    · have:0≤a/b*b:=Int.mul_nonneg (fl_nonneg hb ha) (by omega)
      rw [w64 (n:=a/b*b) (by omega) (by omega),decide_eq_false (by omega)]
      rfl
    · have hv':b∣a:=by rcases hv with h|h; exact absurd h ha; exact h
      have:a/b*b=a:=Int.ediv_mul_cancel hv'
      rw [this,w64 (n:=a) (by omega) (by omega),decide_eq_false (by omega)]
      rfl
  · simp only [hv,if_false] at hd
    have ha:a<0:=by omega
    have h0:a/b<0:=by
      have:=hs.2
      by_cases h:a/b<0
      · exact h
      · have:0≤a/b*b:=Int.mul_nonneg (by omega) (by omega)
        omega
    have e:(a/b+1)*b=a/b*b+b:=by rw [Int.add_mul,Int.one_mul]
    have h3:(a/b+1)*b≤0:=by
      have:=Int.mul_nonneg (a:= -(a/b+1)) (b:=b) (by omega) (by omega)
      rw [Int.neg_mul] at this
      omega
    rw [hd,w64 (n:=a/b+1) (by omega) (by omega),w64 (n:=(a/b+1)*b) (by omega) (by omega),decide_eq_true (by omega),cond_true,Int.add_sub_cancel,w64 (by omega) (by omega)]
theorem culetref27_floor.eq {a b:Int} (hb:0<b) (h1: -4611686018427387904≤a) (h2:a≤4611686018427387904):culetref27_floor a b=a/b:=by
  have hb0:(b !=0)=true:=by simp; omega
  have h3:¬b<0:=by omega
  simp only [culetref27_floor,culetref27_floor.o,culetref27_floor.K,hb0,h3,decide_false,cond_false,cond_true,ref_floor_pos hb h1 h2]
  rfl
theorem culetref27_floor.ok:SOK Tryz.prog 146 (culetref27_floor.sp culetref27_floor):=by
  refine sok_of (E:=⟨[],[],[]⟩) (L:=[]) ⟨specs_nil,inl_nil,mixed_ok,lps_nil⟩ 40 Tryz.func146 (by decide) rfl no_loops fun vs bl v bl' h=> ?_
  unfold culetref27_floor.sp at h
  split at h
  · rename_i a0 a1
    simp only [Option.some.injEq,Prod.mk.injEq] at h
    obtain ⟨hp,rfl,rfl⟩:=h
    have hr:=culetref27_floor.run a0 a1
    rw [culetref27_floor.nat] at hr
    obtain ⟨r,h2⟩:=Option.isSome_iff_exists.1 (by (simp only [culetref27_floor.o,culetref27_floor.K,isSome_cond,Option.isSome_some,bool_cond_true]; revert hp; cases decide (a1<0)<;>simp):(culetref27_floor.o a0 a1).isSome=true)
    have h3:culetref27_floor a0 a1=r:=by unfold culetref27_floor; rw [h2]; rfl
    have h4:culetref27_floor.K a0 a1 some=some r:=h2
    rw [h4,Option.bind_some] at hr
    rw [h3]
    exact ⟨hr,by simp [okV,Nat.blt],clo_spec 8 _ (by kernel_rfl),told_blk (by kernel_rfl)⟩
  · cases h
def culetref27_ceil.K {R:Type} (f_culetref27_floor:Int→Int→(Int)) (a0:Int) (a1:Int) (k:(Int)→Option R):Option R:=
 bif bif decide (a1<0) then IntKind.i64.wrap (-a1) !=0 else a1 !=0 then
 let t0:=f_culetref27_floor (IntKind.i64.wrap (0-a0)) a1
 k (IntKind.i64.wrap (0-t0)) else none
set_option maxRecDepth 100000 in
theorem culetref27_ceil.run (f_culetref27_floor:Int→Int→(Int)) (a0:Int) (a1:Int):xfn Tryz.prog ⟨[(146,culetref27_floor.sp f_culetref27_floor)],[],[]⟩ [] 40 Tryz.f147 [.int .i64 a0,.int .i64 a1] []=culetref27_ceil.K f_culetref27_floor a0 a1 (fun r=>some (.int .i64 r,[])):=by kernel_rfl
def culetref27_ceil.o (a0:Int) (a1:Int):Option (Int):=culetref27_ceil.K culetref27_floor a0 a1 some
def culetref27_ceil (a0:Int) (a1:Int):Int:=(culetref27_ceil.o a0 a1).getD default
theorem culetref27_ceil.nat {R:Type} (f_culetref27_floor:Int→Int→(Int)) (a0:Int) (a1:Int) (k:(Int)→Option R):culetref27_ceil.K f_culetref27_floor a0 a1 k=(culetref27_ceil.K f_culetref27_floor a0 a1 some).bind k:=by
  simp only [culetref27_ceil.K,bcond,Option.bind_some,Option.bind_none]
theorem culetref27_ceil.eq {a b:Int} (hb:0<b) (h1: -4611686018427387904≤a) (h2:a≤4611686018427387904):culetref27_ceil a b=cl a b:=by
  have hb0:(b !=0)=true:=by simp; omega
  have h3:¬b<0:=by omega
  have hq:=tdiv_bnd (a:= -a) hb (by omega) (by omega)
  simp only [culetref27_ceil,culetref27_ceil.o,culetref27_ceil.K,hb0,h3,decide_false,cond_true,cond_false,Option.getD_some,Int.zero_sub]
  rw [w64 (n:= -a) (by omega) (by omega),culetref27_floor.eq hb (by omega) (by omega),w64 (by omega) (by omega)]
  rfl
theorem culetref27_ceil.ok:SOK Tryz.prog 147 (culetref27_ceil.sp culetref27_ceil):=by
  refine sok_of (E:=⟨[(146,culetref27_floor.sp culetref27_floor)],[],[]⟩) (L:=[]) ⟨(specs_cons culetref27_floor.ok specs_nil),inl_nil,mixed_ok,lps_nil⟩ 40 Tryz.func147 (by decide) rfl no_loops fun vs bl v bl' h=> ?_
  unfold culetref27_ceil.sp at h
  split at h
  · rename_i a0 a1
    simp only [Option.some.injEq,Prod.mk.injEq] at h
    obtain ⟨hp,rfl,rfl⟩:=h
    have hr:=culetref27_ceil.run culetref27_floor a0 a1
    rw [culetref27_ceil.nat] at hr
    obtain ⟨r,h2⟩:=Option.isSome_iff_exists.1 (by simp [culetref27_ceil.o,culetref27_ceil.K,isSome_cond,bool_cond_true,hp]:(culetref27_ceil.o a0 a1).isSome=true)
    have h3:culetref27_ceil a0 a1=r:=by unfold culetref27_ceil; rw [h2]; rfl
    have h4:culetref27_ceil.K culetref27_floor a0 a1 some=some r:=h2
    rw [h4,Option.bind_some] at hr
    rw [h3]
    exact ⟨hr,by simp [okV,Nat.blt],clo_spec 8 _ (by kernel_rfl),told_blk (by kernel_rfl)⟩
  · cases h
def culetref27_Mul.K {R:Type} (f_culetref27_both:Int→Int→Int→Int→(Bool)) (f_culetref27_floor:Int→Int→(Int)) (f_culetref27_ceil:Int→Int→(Int)) (f_culetref27_checked:Int→Int→(Int×Int×Int)) (a0_0:Int) (a0_1:Int) (a1_0:Int) (a1_1:Int) (k:Int×Int×Int→R):R:=
 let t0:=f_culetref27_both a0_0 a0_1 a1_0 a1_1
 bif !t0 then k (0,0,1) else
 let t1:=f_culetref27_floor (if IntKind.i64.wrap (a0_1*a1_1)<if IntKind.i64.wrap (a0_1*a1_0)<if IntKind.i64.wrap (a0_0*a1_1)<IntKind.i64.wrap (a0_0*a1_0) then IntKind.i64.wrap (a0_0*a1_1) else IntKind.i64.wrap (a0_0*a1_0) then IntKind.i64.wrap (a0_1*a1_0) else if IntKind.i64.wrap (a0_0*a1_1)<IntKind.i64.wrap (a0_0*a1_0) then IntKind.i64.wrap (a0_0*a1_1) else IntKind.i64.wrap (a0_0*a1_0) then IntKind.i64.wrap (a0_1*a1_1) else if IntKind.i64.wrap (a0_1*a1_0)<if IntKind.i64.wrap (a0_0*a1_1)<IntKind.i64.wrap (a0_0*a1_0) then IntKind.i64.wrap (a0_0*a1_1) else IntKind.i64.wrap (a0_0*a1_0) then IntKind.i64.wrap (a0_1*a1_0) else if IntKind.i64.wrap (a0_0*a1_1)<IntKind.i64.wrap (a0_0*a1_0) then IntKind.i64.wrap (a0_0*a1_1) else IntKind.i64.wrap (a0_0*a1_0)) 16777216
 let t2:=f_culetref27_ceil (if IntKind.i64.wrap (a0_1*a1_1)>if IntKind.i64.wrap (a0_1*a1_0)>if IntKind.i64.wrap (a0_0*a1_1)>IntKind.i64.wrap (a0_0*a1_0) then IntKind.i64.wrap (a0_0*a1_1) else IntKind.i64.wrap (a0_0*a1_0) then IntKind.i64.wrap (a0_1*a1_0) else if IntKind.i64.wrap (a0_0*a1_1)>IntKind.i64.wrap (a0_0*a1_0) then IntKind.i64.wrap (a0_0*a1_1) else IntKind.i64.wrap (a0_0*a1_0) then IntKind.i64.wrap (a0_1*a1_1) else if IntKind.i64.wrap (a0_1*a1_0)>if IntKind.i64.wrap (a0_0*a1_1)>IntKind.i64.wrap (a0_0*a1_0) then IntKind.i64.wrap (a0_0*a1_1) else IntKind.i64.wrap (a0_0*a1_0) then IntKind.i64.wrap (a0_1*a1_0) else if IntKind.i64.wrap (a0_0*a1_1)>IntKind.i64.wrap (a0_0*a1_0) then IntKind.i64.wrap (a0_0*a1_1) else IntKind.i64.wrap (a0_0*a1_0)) 16777216
 let t3:=f_culetref27_checked t1 t2
 k (t3.fst,t3.snd.fst,t3.snd.snd)
set_option maxRecDepth 100000 in
theorem culetref27_Mul.run (f_culetref27_both:Int→Int→Int→Int→(Bool)) (f_culetref27_floor:Int→Int→(Int)) (f_culetref27_ceil:Int→Int→(Int)) (f_culetref27_checked:Int→Int→(Int×Int×Int)) (a0_0:Int) (a0_1:Int) (a1_0:Int) (a1_1:Int):xfn Tryz.prog ⟨[(82,culetref27_both.sp f_culetref27_both),(146,culetref27_floor.sp f_culetref27_floor),(147,culetref27_ceil.sp f_culetref27_ceil),(171,culetref27_checked.sp f_culetref27_checked)],[],[]⟩ [] 40 Tryz.f128 [.agg ⟨[.int .i64 a0_0,.int .i64 a0_1]⟩,.agg ⟨[.int .i64 a1_0,.int .i64 a1_1]⟩] []=culetref27_Mul.K f_culetref27_both f_culetref27_floor f_culetref27_ceil f_culetref27_checked a0_0 a0_1 a1_0 a1_1 (fun r=>some (.tuple ⟨[.agg ⟨[.int .i64 r.1,.int .i64 r.2.1]⟩,.int .i64 r.2.2]⟩,[])):=by kernel_rfl
def culetref27_Mul (a0_0:Int) (a0_1:Int) (a1_0:Int) (a1_1:Int):Int×Int×Int:=culetref27_Mul.K culetref27_both culetref27_floor culetref27_ceil culetref27_checked a0_0 a0_1 a1_0 a1_1 id
theorem culetref27_Mul.nat {R:Type} (f_culetref27_both:Int→Int→Int→Int→(Bool)) (f_culetref27_floor:Int→Int→(Int)) (f_culetref27_ceil:Int→Int→(Int)) (f_culetref27_checked:Int→Int→(Int×Int×Int)) (a0_0:Int) (a0_1:Int) (a1_0:Int) (a1_1:Int) (k:Int×Int×Int→R):culetref27_Mul.K f_culetref27_both f_culetref27_floor f_culetref27_ceil f_culetref27_checked a0_0 a0_1 a1_0 a1_1 k=k (culetref27_Mul.K f_culetref27_both f_culetref27_floor f_culetref27_ceil f_culetref27_checked a0_0 a0_1 a1_0 a1_1 id):=by
  simp only [culetref27_Mul.K,acond k,id_eq]
theorem culetref27_Mul.eq (a b c d:Int):culetref27_Mul a b c d=imul a b c d:=by
  simp only [culetref27_Mul,culetref27_Mul.K,id_eq,culetref27_both.eq,imul,mnE,mxE]
  cases h:V a b&&V c d with
  |false=>simp
  | true=>
    have h':=h
    rw [Bool.and_eq_true] at h'
    have:=V_iff.1 h'.1
    have:=V_iff.1 h'.2
    have e1:=mul_bnd30 (x:=a) (y:=c) (by omega) (by omega) (by omega) (by omega)
    have e2:=mul_bnd30 (x:=a) (y:=d) (by omega) (by omega) (by omega) (by omega)
    have e3:=mul_bnd30 (x:=b) (y:=c) (by omega) (by omega) (by omega) (by omega)
    have e4:=mul_bnd30 (x:=b) (y:=d) (by omega) (by omega) (by omega) (by omega)
    have w1:IntKind.i64.wrap (a*c)=a*c:=w64 (by omega) (by omega)
    have w2:IntKind.i64.wrap (a*d)=a*d:=w64 (by omega) (by omega)
    have w3:IntKind.i64.wrap (b*c)=b*c:=w64 (by omega) (by omega)
    have w4:IntKind.i64.wrap (b*d)=b*d:=w64 (by omega) (by omega)
    have m1:min (min (min (a*c) (a*d)) (b*c)) (b*d)=mn4 (a*c) (a*d) (b*c) (b*d):=by simp only [mn4]; omega
    have m2:max (max (max (a*c) (a*d)) (b*c)) (b*d)=mx4 (a*c) (a*d) (b*c) (b*d):=by simp only [mx4]; omega
    simp only [w1,w2,w3,w4,Bool.not_true,cond_false,cond_true,m1,m2]
    rw [culetref27_floor.eq (by omega) (by simp only [mn4]; omega) (by simp only [mn4]; omega),culetref27_ceil.eq (by omega) (by simp only [mx4]; omega) (by simp only [mx4]; omega),culetref27_checked.eq]
theorem culetref27_Mul.ok:SOK Tryz.prog 128 (culetref27_Mul.sp culetref27_Mul):=by
  refine sok_of (E:=⟨[(82,culetref27_both.sp culetref27_both),(146,culetref27_floor.sp culetref27_floor),(147,culetref27_ceil.sp culetref27_ceil),(171,culetref27_checked.sp culetref27_checked)],[],[]⟩) (L:=[]) ⟨(specs_cons culetref27_both.ok (specs_cons culetref27_floor.ok (specs_cons culetref27_ceil.ok (specs_cons culetref27_checked.ok specs_nil)))),inl_nil,mixed_ok,lps_nil⟩ 40 Tryz.func128 (by decide) rfl no_loops fun vs bl v bl' h=> ?_
  unfold culetref27_Mul.sp at h
  split at h
  · rename_i a0_0 a0_1 a1_0 a1_1
    simp only [Option.some.injEq,Prod.mk.injEq,true_and] at h
    obtain ⟨rfl,rfl⟩:=h
    refine ⟨?_,by simp [okV,Nat.blt],clo_spec 8 _ (by kernel_rfl),told_blk (by kernel_rfl)⟩
    refine (culetref27_Mul.run culetref27_both culetref27_floor culetref27_ceil culetref27_checked a0_0 a0_1 a1_0 a1_1).trans ?_
    refine (culetref27_Mul.nat culetref27_both culetref27_floor culetref27_ceil culetref27_checked a0_0 a0_1 a1_0 a1_1 _).trans ?_
    kernel_rfl
  · cases h
def culetref28_Calc_Mul.K {R:Type} (f_culetref28_Calc_kept:Int→Int→Int→Int→(Int×Int×Int)) (f_culetref27_Mul:Int→Int→Int→Int→(Int×Int×Int)) (s0_0:Int) (a1_0:Int) (a1_1:Int) (a2_0:Int) (a2_1:Int) (k:Int×Int×Int→R):R:=
 let t0:=f_culetref27_Mul a1_0 a1_1 a2_0 a2_1
 let t1:=f_culetref28_Calc_kept s0_0 t0.fst t0.snd.fst t0.snd.snd
 k (t1.fst,t1.snd.fst,t1.snd.snd)
set_option maxRecDepth 100000 in
theorem culetref28_Calc_Mul.run (f_culetref28_Calc_kept:Int→Int→Int→Int→(Int×Int×Int)) (f_culetref27_Mul:Int→Int→Int→Int→(Int×Int×Int)) (s0_0:Int) (a1_0:Int) (a1_1:Int) (a2_0:Int) (a2_1:Int):xfn Tryz.prog ⟨[(85,culetref28_Calc_kept.sp f_culetref28_Calc_kept),(128,culetref27_Mul.sp f_culetref27_Mul)],[],[]⟩ [] 40 Tryz.f77 [.pointer (some ⟨0,0,none⟩),.agg ⟨[.int .i64 a1_0,.int .i64 a1_1]⟩,.agg ⟨[.int .i64 a2_0,.int .i64 a2_1]⟩] [.cs [.int .i64 s0_0] 106]=culetref28_Calc_Mul.K f_culetref28_Calc_kept f_culetref27_Mul s0_0 a1_0 a1_1 a2_0 a2_1 (fun r=>some (.agg ⟨[.int .i64 r.1,.int .i64 r.2.1]⟩,[.cs [.int .i64 r.2.2] 106])):=by kernel_rfl
def culetref28_Calc_Mul (s0_0:Int) (a1_0:Int) (a1_1:Int) (a2_0:Int) (a2_1:Int):Int×Int×Int:=culetref28_Calc_Mul.K culetref28_Calc_kept culetref27_Mul s0_0 a1_0 a1_1 a2_0 a2_1 id
theorem culetref28_Calc_Mul.nat {R:Type} (f_culetref28_Calc_kept:Int→Int→Int→Int→(Int×Int×Int)) (f_culetref27_Mul:Int→Int→Int→Int→(Int×Int×Int)) (s0_0:Int) (a1_0:Int) (a1_1:Int) (a2_0:Int) (a2_1:Int) (k:Int×Int×Int→R):culetref28_Calc_Mul.K f_culetref28_Calc_kept f_culetref27_Mul s0_0 a1_0 a1_1 a2_0 a2_1 k=k (culetref28_Calc_Mul.K f_culetref28_Calc_kept f_culetref27_Mul s0_0 a1_0 a1_1 a2_0 a2_1 id):=by
  simp only [culetref28_Calc_Mul.K,acond k,id_eq]
theorem culetref28_Calc_Mul.eq (s a b c d:Int):culetref28_Calc_Mul s a b c d=kr s (imul a b c d):=by
  simp only [culetref28_Calc_Mul,culetref28_Calc_Mul.K,id_eq,culetref27_Mul.eq,kept_eq,kr]
theorem culetref28_Calc_Mul.ok:SOK Tryz.prog 77 (culetref28_Calc_Mul.sp culetref28_Calc_Mul):=by
  refine sok_of (E:=⟨[(85,culetref28_Calc_kept.sp culetref28_Calc_kept),(128,culetref27_Mul.sp culetref27_Mul)],[],[]⟩) (L:=[]) ⟨(specs_cons culetref28_Calc_kept.ok (specs_cons culetref27_Mul.ok specs_nil)),inl_nil,mixed_ok,lps_nil⟩ 40 Tryz.func77 (by decide) rfl no_loops fun vs bl v bl' h=> ?_
  unfold culetref28_Calc_Mul.sp at h
  split at h
  · rename_i a1_0 a1_1 a2_0 a2_1 s0_0
    simp only [Option.some.injEq,Prod.mk.injEq,true_and] at h
    obtain ⟨rfl,rfl⟩:=h
    refine ⟨?_,by simp [okV,Nat.blt],clo_spec 8 _ (by kernel_rfl),told_blk (by kernel_rfl)⟩
    refine (culetref28_Calc_Mul.run culetref28_Calc_kept culetref27_Mul s0_0 a1_0 a1_1 a2_0 a2_1).trans ?_
    refine (culetref28_Calc_Mul.nat culetref28_Calc_kept culetref27_Mul s0_0 a1_0 a1_1 a2_0 a2_1 _).trans ?_
    kernel_rfl
  · cases h
def culetref28_Scale.K {R:Type} (f_culetref28_Valid:Int→Int→Int→Int→Int→Int→(Bool)) (f_culetref28_Calc_done:Int→Int→Int→Int→Int→Int→Int→(Int×Int×Int×Int×Int×Int×Int×Int)) (f_culetref27_Valid:Int→Int→(Bool)) (f_culetref28_Calc_Mul:Int→Int→Int→Int→Int→(Int×Int×Int)) (a0_0:Int) (a0_1:Int) (a0_2:Int) (a0_3:Int) (a0_4:Int) (a0_5:Int) (a1_0:Int) (a1_1:Int) (k:Int×Int×Int×Int×Int×Int×Int→R):R:=
 let t0:=f_culetref28_Valid a0_0 a0_1 a0_2 a0_3 a0_4 a0_5
 bif !t0 then k (0,0,0,0,0,0,1) else
 let t1:=f_culetref27_Valid a1_0 a1_1
 bif !t1 then k (0,0,0,0,0,0,1) else
 let t2:=f_culetref28_Calc_Mul 0 a0_0 a0_1 a1_0 a1_1
 let t3:=f_culetref28_Calc_Mul t2.snd.snd a0_2 a0_3 a1_0 a1_1
 let t4:=f_culetref28_Calc_Mul t3.snd.snd a0_4 a0_5 a1_0 a1_1
 let t5:=f_culetref28_Calc_done t4.snd.snd t2.fst t2.snd.fst t3.fst t3.snd.fst t4.fst t4.snd.fst
 k (t5.fst,t5.snd.fst,t5.snd.snd.fst,t5.snd.snd.snd.fst,t5.snd.snd.snd.snd.fst,t5.snd.snd.snd.snd.snd.fst,t5.snd.snd.snd.snd.snd.snd.fst)
set_option maxRecDepth 100000 in
theorem culetref28_Scale.run (f_culetref28_Valid:Int→Int→Int→Int→Int→Int→(Bool)) (f_culetref28_Calc_done:Int→Int→Int→Int→Int→Int→Int→(Int×Int×Int×Int×Int×Int×Int×Int)) (f_culetref27_Valid:Int→Int→(Bool)) (f_culetref28_Calc_Mul:Int→Int→Int→Int→Int→(Int×Int×Int)) (a0_0:Int) (a0_1:Int) (a0_2:Int) (a0_3:Int) (a0_4:Int) (a0_5:Int) (a1_0:Int) (a1_1:Int):xfn Tryz.prog ⟨[(34,culetref28_Valid.sp f_culetref28_Valid),(73,culetref28_Calc_done.sp f_culetref28_Calc_done),(76,culetref27_Valid.sp f_culetref27_Valid),(77,culetref28_Calc_Mul.sp f_culetref28_Calc_Mul)],[],[]⟩ [] 40 Tryz.f29 [.agg ⟨[.int .i64 a0_0,.int .i64 a0_1,.int .i64 a0_2,.int .i64 a0_3,.int .i64 a0_4,.int .i64 a0_5]⟩,.agg ⟨[.int .i64 a1_0,.int .i64 a1_1]⟩] []=culetref28_Scale.K f_culetref28_Valid f_culetref28_Calc_done f_culetref27_Valid f_culetref28_Calc_Mul a0_0 a0_1 a0_2 a0_3 a0_4 a0_5 a1_0 a1_1 (fun r=>some (.tuple ⟨[.agg ⟨[.int .i64 r.1,.int .i64 r.2.1,.int .i64 r.2.2.1,.int .i64 r.2.2.2.1,.int .i64 r.2.2.2.2.1,.int .i64 r.2.2.2.2.2.1]⟩,.int .i64 r.2.2.2.2.2.2]⟩,[])):=by kernel_rfl
def culetref28_Scale (a0_0:Int) (a0_1:Int) (a0_2:Int) (a0_3:Int) (a0_4:Int) (a0_5:Int) (a1_0:Int) (a1_1:Int):Int×Int×Int×Int×Int×Int×Int:=culetref28_Scale.K culetref28_Valid culetref28_Calc_done culetref27_Valid culetref28_Calc_Mul a0_0 a0_1 a0_2 a0_3 a0_4 a0_5 a1_0 a1_1 id
theorem culetref28_Scale.nat {R:Type} (f_culetref28_Valid:Int→Int→Int→Int→Int→Int→(Bool)) (f_culetref28_Calc_done:Int→Int→Int→Int→Int→Int→Int→(Int×Int×Int×Int×Int×Int×Int×Int)) (f_culetref27_Valid:Int→Int→(Bool)) (f_culetref28_Calc_Mul:Int→Int→Int→Int→Int→(Int×Int×Int)) (a0_0:Int) (a0_1:Int) (a0_2:Int) (a0_3:Int) (a0_4:Int) (a0_5:Int) (a1_0:Int) (a1_1:Int) (k:Int×Int×Int×Int×Int×Int×Int→R):culetref28_Scale.K f_culetref28_Valid f_culetref28_Calc_done f_culetref27_Valid f_culetref28_Calc_Mul a0_0 a0_1 a0_2 a0_3 a0_4 a0_5 a1_0 a1_1 k=k (culetref28_Scale.K f_culetref28_Valid f_culetref28_Calc_done f_culetref27_Valid f_culetref28_Calc_Mul a0_0 a0_1 a0_2 a0_3 a0_4 a0_5 a1_0 a1_1 id):=by
  simp only [culetref28_Scale.K,acond k,id_eq]
theorem culetref28_Scale.eq (a0 a1 a2 a3 a4 a5 r0 r1:Int):culetref28_Scale a0 a1 a2 a3 a4 a5 r0 r1=o7 (dscale ((a0,a1),(a2,a3),(a4,a5)) (r0,r1)):=by
  simp only [culetref28_Scale,culetref28_Scale.K,id_eq,culetref28_Valid.eq,culetref28_Calc_Mul.eq,culetref27_Valid.eq,culetref28_Calc_done,culetref28_Calc_done.K,id_eq,dscale,dzip,mulR,V2]
  cases hV0:VB ((a0,a1),(a2,a3),(a4,a5)) with
  | false=>
    simp only [hV0,st0,kr0,st70,t3_ok,bind_ok,bind_er,o7,o3,o2,o11,V2_mk,kp0,cond_true,cond_false,Bool.not_true,Bool.not_false,Bool.false_and,Bool.and_false,Bool.true_and,Bool.and_true,bne_self_eq_false,beq_self_eq_true,if_true,if_false]
  | true=>
    cases hV1:V r0 r1 with
    | false=>
      simp only [hV0,hV1,st0,kr0,st70,t3_ok,bind_ok,bind_er,o7,o3,o2,o11,V2_mk,kp0,cond_true,cond_false,Bool.not_true,Bool.not_false,Bool.false_and,Bool.and_false,Bool.true_and,Bool.and_true,bne_self_eq_false,beq_self_eq_true,if_true,if_false]
    | true=>
      rcases t3c (imul a0 a1 r0 r1) with ⟨x0,x1,h0⟩|⟨x0,x1,e0,n0,h0⟩
      · simp only [hV0,hV1,h0,st0,kr0,st70,t3_ok,bind_ok,bind_er,o7,o3,o2,o11,V2_mk,kp0,cond_true,cond_false,Bool.not_true,Bool.not_false,Bool.false_and,Bool.and_false,Bool.true_and,Bool.and_true,bne_self_eq_false,beq_self_eq_true,if_true,if_false]
        rcases t3c (imul a2 a3 r0 r1) with ⟨y0,y1,h1⟩|⟨y0,y1,e1,n1,h1⟩
        · simp only [h1,st0,kr0,st70,t3_ok,bind_ok,bind_er,o7,o3,o2,o11,V2_mk,kp0,cond_true,cond_false,Bool.not_true,Bool.not_false,Bool.false_and,Bool.and_false,Bool.true_and,Bool.and_true,bne_self_eq_false,beq_self_eq_true,if_true,if_false]
          rcases t3c (imul a4 a5 r0 r1) with ⟨z0,z1,h2⟩|⟨z0,z1,e2,n2,h2⟩
          · simp only [h2,st0,kr0,st70,t3_ok,bind_ok,bind_er,o7,o3,o2,o11,V2_mk,kp0,cond_true,cond_false,Bool.not_true,Bool.not_false,Bool.false_and,Bool.and_false,Bool.true_and,Bool.and_true,bne_self_eq_false,beq_self_eq_true,if_true,if_false]
          · simp only [h2,stE n2,krE n2,st7E n2,t3_er n2,bne_of n2,beq_of n2,kpn _ n2,st0,kr0,st70,t3_ok,bind_ok,bind_er,o7,o3,o2,o11,V2_mk,kp0,cond_true,cond_false,Bool.not_true,Bool.not_false,Bool.false_and,Bool.and_false,Bool.true_and,Bool.and_true,bne_self_eq_false,beq_self_eq_true,if_true,if_false]
        · simp only [h1,stE n1,krE n1,st7E n1,t3_er n1,bne_of n1,beq_of n1,kpn _ n1,st0,kr0,st70,t3_ok,bind_ok,bind_er,o7,o3,o2,o11,V2_mk,kp0,cond_true,cond_false,Bool.not_true,Bool.not_false,Bool.false_and,Bool.and_false,Bool.true_and,Bool.and_true,bne_self_eq_false,beq_self_eq_true,if_true,if_false]
      · simp only [hV0,hV1,h0,stE n0,krE n0,st7E n0,t3_er n0,bne_of n0,beq_of n0,kpn _ n0,st0,kr0,st70,t3_ok,bind_ok,bind_er,o7,o3,o2,o11,V2_mk,kp0,cond_true,cond_false,Bool.not_true,Bool.not_false,Bool.false_and,Bool.and_false,Bool.true_and,Bool.and_true,bne_self_eq_false,beq_self_eq_true,if_true,if_false]
theorem culetref28_Scale.ok:SOK Tryz.prog 29 (culetref28_Scale.sp culetref28_Scale):=by
  refine sok_of (E:=⟨[(34,culetref28_Valid.sp culetref28_Valid),(73,culetref28_Calc_done.sp culetref28_Calc_done),(76,culetref27_Valid.sp culetref27_Valid),(77,culetref28_Calc_Mul.sp culetref28_Calc_Mul)],[],[]⟩) (L:=[]) ⟨(specs_cons culetref28_Valid.ok (specs_cons culetref28_Calc_done.ok (specs_cons culetref27_Valid.ok (specs_cons culetref28_Calc_Mul.ok specs_nil)))),inl_nil,mixed_ok,lps_nil⟩ 40 Tryz.func29 (by decide) rfl no_loops fun vs bl v bl' h=> ?_
  unfold culetref28_Scale.sp at h
  split at h
  · rename_i a0_0 a0_1 a0_2 a0_3 a0_4 a0_5 a1_0 a1_1
    simp only [Option.some.injEq,Prod.mk.injEq,true_and] at h
    obtain ⟨rfl,rfl⟩:=h
    refine ⟨?_,by simp [okV,Nat.blt],clo_spec 8 _ (by kernel_rfl),told_blk (by kernel_rfl)⟩
    refine (culetref28_Scale.run culetref28_Valid culetref28_Calc_done culetref27_Valid culetref28_Calc_Mul a0_0 a0_1 a0_2 a0_3 a0_4 a0_5 a1_0 a1_1).trans ?_
    refine (culetref28_Scale.nat culetref28_Valid culetref28_Calc_done culetref27_Valid culetref28_Calc_Mul a0_0 a0_1 a0_2 a0_3 a0_4 a0_5 a1_0 a1_1 _).trans ?_
    kernel_rfl
  · cases h
def direction_calc_result.K {R:Type} (s0_0:Int) (a1_0:Int) (a1_1:Int) (k:Int×Int×Int×Int→R):R:=
 bif s0_0 !=0 then k (0,0,s0_0,s0_0) else k (a1_0,a1_1,0,s0_0)
set_option maxRecDepth 100000 in
theorem direction_calc_result.run (s0_0:Int) (a1_0:Int) (a1_1:Int):xfn Tryz.prog ⟨[],[],[]⟩ [] 40 Tryz.f71 [.pointer (some ⟨0,0,none⟩),.agg ⟨[.int .i64 a1_0,.int .i64 a1_1]⟩] [.cs [.int .i64 s0_0] 98]=direction_calc_result.K s0_0 a1_0 a1_1 (fun r=>some (.tuple ⟨[.agg ⟨[.int .i64 r.1,.int .i64 r.2.1]⟩,.int .i64 r.2.2.1]⟩,[.cs [.int .i64 r.2.2.2] 98])):=by kernel_rfl
def direction_calc_result (s0_0:Int) (a1_0:Int) (a1_1:Int):Int×Int×Int×Int:=direction_calc_result.K s0_0 a1_0 a1_1 id
theorem direction_calc_result.nat {R:Type} (s0_0:Int) (a1_0:Int) (a1_1:Int) (k:Int×Int×Int×Int→R):direction_calc_result.K s0_0 a1_0 a1_1 k=k (direction_calc_result.K s0_0 a1_0 a1_1 id):=by
  simp only [direction_calc_result.K,acond k,id_eq]
theorem direction_calc_result.ok:SOK Tryz.prog 71 (direction_calc_result.sp direction_calc_result):=by
  refine sok_of (E:=⟨[],[],[]⟩) (L:=[]) ⟨specs_nil,inl_nil,mixed_ok,lps_nil⟩ 40 Tryz.func71 (by decide) rfl no_loops fun vs bl v bl' h=> ?_
  unfold direction_calc_result.sp at h
  split at h
  · rename_i a1_0 a1_1 s0_0
    simp only [Option.some.injEq,Prod.mk.injEq,true_and] at h
    obtain ⟨rfl,rfl⟩:=h
    refine ⟨?_,by simp [okV,Nat.blt],clo_spec 8 _ (by kernel_rfl),told_blk (by kernel_rfl)⟩
    refine (direction_calc_result.run s0_0 a1_0 a1_1).trans ?_
    refine (direction_calc_result.nat s0_0 a1_0 a1_1 _).trans ?_
    kernel_rfl
  · cases h
def direction_Dot.K {R:Type} (f_direction_Valid:Int→Int→Int→Int→Int→Int→(Bool)) (f_direction_calc_add:Int→Int→Int→Int→Int→(Int×Int×Int)) (f_direction_calc_result:Int→Int→Int→(Int×Int×Int×Int)) (f_direction_calc_mul:Int→Int→Int→Int→Int→(Int×Int×Int)) (a0_0:Int) (a0_1:Int) (a0_2:Int) (a0_3:Int) (a0_4:Int) (a0_5:Int) (a1_0:Int) (a1_1:Int) (a1_2:Int) (a1_3:Int) (a1_4:Int) (a1_5:Int) (k:Int×Int×Int→R):R:=
 let t0:=f_direction_Valid a0_0 a0_1 a0_2 a0_3 a0_4 a0_5
 bif !t0 then k (0,0,1) else
 let t1:=f_direction_Valid a1_0 a1_1 a1_2 a1_3 a1_4 a1_5
 bif !t1 then k (0,0,1) else
 let t2:=f_direction_calc_mul 0 a0_0 a0_1 a1_0 a1_1
 let t3:=f_direction_calc_mul t2.snd.snd a0_2 a0_3 a1_2 a1_3
 let t4:=f_direction_calc_mul t3.snd.snd a0_4 a0_5 a1_4 a1_5
 let t5:=f_direction_calc_add t4.snd.snd t2.fst t2.snd.fst t3.fst t3.snd.fst
 let t6:=f_direction_calc_add t5.snd.snd t5.fst t5.snd.fst t4.fst t4.snd.fst
 let t7:=f_direction_calc_result t6.snd.snd t6.fst t6.snd.fst
 k (t7.fst,t7.snd.fst,t7.snd.snd.fst)
set_option maxRecDepth 100000 in
theorem direction_Dot.run (f_direction_Valid:Int→Int→Int→Int→Int→Int→(Bool)) (f_direction_calc_add:Int→Int→Int→Int→Int→(Int×Int×Int)) (f_direction_calc_result:Int→Int→Int→(Int×Int×Int×Int)) (f_direction_calc_mul:Int→Int→Int→Int→Int→(Int×Int×Int)) (a0_0:Int) (a0_1:Int) (a0_2:Int) (a0_3:Int) (a0_4:Int) (a0_5:Int) (a1_0:Int) (a1_1:Int) (a1_2:Int) (a1_3:Int) (a1_4:Int) (a1_5:Int):xfn Tryz.prog ⟨[(49,direction_Valid.sp f_direction_Valid),(68,direction_calc_add.sp f_direction_calc_add),(71,direction_calc_result.sp f_direction_calc_result),(75,direction_calc_mul.sp f_direction_calc_mul)],[],[]⟩ [] 40 Tryz.f30 [.agg ⟨[.int .i64 a0_0,.int .i64 a0_1,.int .i64 a0_2,.int .i64 a0_3,.int .i64 a0_4,.int .i64 a0_5]⟩,.agg ⟨[.int .i64 a1_0,.int .i64 a1_1,.int .i64 a1_2,.int .i64 a1_3,.int .i64 a1_4,.int .i64 a1_5]⟩] []=direction_Dot.K f_direction_Valid f_direction_calc_add f_direction_calc_result f_direction_calc_mul a0_0 a0_1 a0_2 a0_3 a0_4 a0_5 a1_0 a1_1 a1_2 a1_3 a1_4 a1_5 (fun r=>some (.tuple ⟨[.agg ⟨[.int .i64 r.1,.int .i64 r.2.1]⟩,.int .i64 r.2.2]⟩,[])):=by kernel_rfl
def direction_Dot (a0_0:Int) (a0_1:Int) (a0_2:Int) (a0_3:Int) (a0_4:Int) (a0_5:Int) (a1_0:Int) (a1_1:Int) (a1_2:Int) (a1_3:Int) (a1_4:Int) (a1_5:Int):Int×Int×Int:=direction_Dot.K direction_Valid direction_calc_add direction_calc_result direction_calc_mul a0_0 a0_1 a0_2 a0_3 a0_4 a0_5 a1_0 a1_1 a1_2 a1_3 a1_4 a1_5 id
theorem direction_Dot.nat {R:Type} (f_direction_Valid:Int→Int→Int→Int→Int→Int→(Bool)) (f_direction_calc_add:Int→Int→Int→Int→Int→(Int×Int×Int)) (f_direction_calc_result:Int→Int→Int→(Int×Int×Int×Int)) (f_direction_calc_mul:Int→Int→Int→Int→Int→(Int×Int×Int)) (a0_0:Int) (a0_1:Int) (a0_2:Int) (a0_3:Int) (a0_4:Int) (a0_5:Int) (a1_0:Int) (a1_1:Int) (a1_2:Int) (a1_3:Int) (a1_4:Int) (a1_5:Int) (k:Int×Int×Int→R):direction_Dot.K f_direction_Valid f_direction_calc_add f_direction_calc_result f_direction_calc_mul a0_0 a0_1 a0_2 a0_3 a0_4 a0_5 a1_0 a1_1 a1_2 a1_3 a1_4 a1_5 k=k (direction_Dot.K f_direction_Valid f_direction_calc_add f_direction_calc_result f_direction_calc_mul a0_0 a0_1 a0_2 a0_3 a0_4 a0_5 a1_0 a1_1 a1_2 a1_3 a1_4 a1_5 id):=by
  simp only [direction_Dot.K,acond k,id_eq]
theorem direction_Dot.eq (a0 a1 a2 a3 a4 a5 b0 b1 b2 b3 b4 b5:Int):direction_Dot a0 a1 a2 a3 a4 a5 b0 b1 b2 b3 b4 b5=o3 (ddot ((a0,a1),(a2,a3),(a4,a5)) ((b0,b1),(b2,b3),(b4,b5))):=by
  simp only [direction_Dot,direction_Dot.K,id_eq,direction_Valid.eq,direction_calc_mul.eq,direction_calc_add.eq,direction_calc_result,direction_calc_result.K,id_eq,ddot,mulR,addR]
  cases hV0:VB ((a0,a1),(a2,a3),(a4,a5)) with
  | false=>
    simp only [hV0,st0,kr0,st70,t3_ok,bind_ok,bind_er,o7,o3,o2,o11,V2_mk,kp0,cond_true,cond_false,Bool.not_true,Bool.not_false,Bool.false_and,Bool.and_false,Bool.true_and,Bool.and_true,bne_self_eq_false,beq_self_eq_true,if_true,if_false]
  | true=>
    cases hV1:VB ((b0,b1),(b2,b3),(b4,b5)) with
    | false=>
      simp only [hV0,hV1,st0,kr0,st70,t3_ok,bind_ok,bind_er,o7,o3,o2,o11,V2_mk,kp0,cond_true,cond_false,Bool.not_true,Bool.not_false,Bool.false_and,Bool.and_false,Bool.true_and,Bool.and_true,bne_self_eq_false,beq_self_eq_true,if_true,if_false]
    | true=>
      rcases t3c (imul a0 a1 b0 b1) with ⟨x0,x1,h0⟩|⟨x0,x1,e0,n0,h0⟩
      · simp only [hV0,hV1,h0,st0,kr0,st70,t3_ok,bind_ok,bind_er,o7,o3,o2,o11,V2_mk,kp0,cond_true,cond_false,Bool.not_true,Bool.not_false,Bool.false_and,Bool.and_false,Bool.true_and,Bool.and_true,bne_self_eq_false,beq_self_eq_true,if_true,if_false]
        rcases t3c (imul a2 a3 b2 b3) with ⟨y0,y1,h1⟩|⟨y0,y1,e1,n1,h1⟩
        · simp only [h1,st0,kr0,st70,t3_ok,bind_ok,bind_er,o7,o3,o2,o11,V2_mk,kp0,cond_true,cond_false,Bool.not_true,Bool.not_false,Bool.false_and,Bool.and_false,Bool.true_and,Bool.and_true,bne_self_eq_false,beq_self_eq_true,if_true,if_false]
          rcases t3c (imul a4 a5 b4 b5) with ⟨z0,z1,h2⟩|⟨z0,z1,e2,n2,h2⟩
          · simp only [h2,st0,kr0,st70,t3_ok,bind_ok,bind_er,o7,o3,o2,o11,V2_mk,kp0,cond_true,cond_false,Bool.not_true,Bool.not_false,Bool.false_and,Bool.and_false,Bool.true_and,Bool.and_true,bne_self_eq_false,beq_self_eq_true,if_true,if_false]
            rcases t3c (iadd x0 x1 y0 y1) with ⟨s0,s1,h3⟩|⟨s0,s1,e3,n3,h3⟩
            · simp only [h3,st0,kr0,st70,t3_ok,bind_ok,bind_er,o7,o3,o2,o11,V2_mk,kp0,cond_true,cond_false,Bool.not_true,Bool.not_false,Bool.false_and,Bool.and_false,Bool.true_and,Bool.and_true,bne_self_eq_false,beq_self_eq_true,if_true,if_false]
              rcases t3c (iadd s0 s1 z0 z1) with ⟨t0,t1,h4⟩|⟨t0,t1,e4,n4,h4⟩
              · simp only [h4,st0,kr0,st70,t3_ok,bind_ok,bind_er,o7,o3,o2,o11,V2_mk,kp0,cond_true,cond_false,Bool.not_true,Bool.not_false,Bool.false_and,Bool.and_false,Bool.true_and,Bool.and_true,bne_self_eq_false,beq_self_eq_true,if_true,if_false]
              · simp only [h4,stE n4,krE n4,st7E n4,t3_er n4,bne_of n4,beq_of n4,kpn _ n4,st0,kr0,st70,t3_ok,bind_ok,bind_er,o7,o3,o2,o11,V2_mk,kp0,cond_true,cond_false,Bool.not_true,Bool.not_false,Bool.false_and,Bool.and_false,Bool.true_and,Bool.and_true,bne_self_eq_false,beq_self_eq_true,if_true,if_false]
            · simp only [h3,stE n3,krE n3,st7E n3,t3_er n3,bne_of n3,beq_of n3,kpn _ n3,st0,kr0,st70,t3_ok,bind_ok,bind_er,o7,o3,o2,o11,V2_mk,kp0,cond_true,cond_false,Bool.not_true,Bool.not_false,Bool.false_and,Bool.and_false,Bool.true_and,Bool.and_true,bne_self_eq_false,beq_self_eq_true,if_true,if_false]
          · simp only [h2,stE n2,krE n2,st7E n2,t3_er n2,bne_of n2,beq_of n2,kpn _ n2,st0,kr0,st70,t3_ok,bind_ok,bind_er,o7,o3,o2,o11,V2_mk,kp0,cond_true,cond_false,Bool.not_true,Bool.not_false,Bool.false_and,Bool.and_false,Bool.true_and,Bool.and_true,bne_self_eq_false,beq_self_eq_true,if_true,if_false]
        · simp only [h1,stE n1,krE n1,st7E n1,t3_er n1,bne_of n1,beq_of n1,kpn _ n1,st0,kr0,st70,t3_ok,bind_ok,bind_er,o7,o3,o2,o11,V2_mk,kp0,cond_true,cond_false,Bool.not_true,Bool.not_false,Bool.false_and,Bool.and_false,Bool.true_and,Bool.and_true,bne_self_eq_false,beq_self_eq_true,if_true,if_false]
      · simp only [hV0,hV1,h0,stE n0,krE n0,st7E n0,t3_er n0,bne_of n0,beq_of n0,kpn _ n0,st0,kr0,st70,t3_ok,bind_ok,bind_er,o7,o3,o2,o11,V2_mk,kp0,cond_true,cond_false,Bool.not_true,Bool.not_false,Bool.false_and,Bool.and_false,Bool.true_and,Bool.and_true,bne_self_eq_false,beq_self_eq_true,if_true,if_false]
theorem direction_Dot.ok:SOK Tryz.prog 30 (direction_Dot.sp direction_Dot):=by
  refine sok_of (E:=⟨[(49,direction_Valid.sp direction_Valid),(68,direction_calc_add.sp direction_calc_add),(71,direction_calc_result.sp direction_calc_result),(75,direction_calc_mul.sp direction_calc_mul)],[],[]⟩) (L:=[]) ⟨(specs_cons direction_Valid.ok (specs_cons direction_calc_add.ok (specs_cons direction_calc_result.ok (specs_cons direction_calc_mul.ok specs_nil)))),inl_nil,mixed_ok,lps_nil⟩ 40 Tryz.func30 (by decide) rfl no_loops fun vs bl v bl' h=> ?_
  unfold direction_Dot.sp at h
  split at h
  · rename_i a0_0 a0_1 a0_2 a0_3 a0_4 a0_5 a1_0 a1_1 a1_2 a1_3 a1_4 a1_5
    simp only [Option.some.injEq,Prod.mk.injEq,true_and] at h
    obtain ⟨rfl,rfl⟩:=h
    refine ⟨?_,by simp [okV,Nat.blt],clo_spec 8 _ (by kernel_rfl),told_blk (by kernel_rfl)⟩
    refine (direction_Dot.run direction_Valid direction_calc_add direction_calc_result direction_calc_mul a0_0 a0_1 a0_2 a0_3 a0_4 a0_5 a1_0 a1_1 a1_2 a1_3 a1_4 a1_5).trans ?_
    refine (direction_Dot.nat direction_Valid direction_calc_add direction_calc_result direction_calc_mul a0_0 a0_1 a0_2 a0_3 a0_4 a0_5 a1_0 a1_1 a1_2 a1_3 a1_4 a1_5 _).trans ?_
    kernel_rfl
  · cases h
def culetref28_Calc_only.K {R:Type} (s0_0:Int) (a1_0:Int) (a1_1:Int) (k:Int×Int×Int×Int→R):R:=
 bif s0_0 !=0 then k (0,0,s0_0,s0_0) else k (a1_0,a1_1,0,s0_0)
set_option maxRecDepth 100000 in
theorem culetref28_Calc_only.run (s0_0:Int) (a1_0:Int) (a1_1:Int):xfn Tryz.prog ⟨[],[],[]⟩ [] 40 Tryz.f78 [.pointer (some ⟨0,0,none⟩),.agg ⟨[.int .i64 a1_0,.int .i64 a1_1]⟩] [.cs [.int .i64 s0_0] 106]=culetref28_Calc_only.K s0_0 a1_0 a1_1 (fun r=>some (.tuple ⟨[.agg ⟨[.int .i64 r.1,.int .i64 r.2.1]⟩,.int .i64 r.2.2.1]⟩,[.cs [.int .i64 r.2.2.2] 106])):=by kernel_rfl
def culetref28_Calc_only (s0_0:Int) (a1_0:Int) (a1_1:Int):Int×Int×Int×Int:=culetref28_Calc_only.K s0_0 a1_0 a1_1 id
theorem culetref28_Calc_only.nat {R:Type} (s0_0:Int) (a1_0:Int) (a1_1:Int) (k:Int×Int×Int×Int→R):culetref28_Calc_only.K s0_0 a1_0 a1_1 k=k (culetref28_Calc_only.K s0_0 a1_0 a1_1 id):=by
  simp only [culetref28_Calc_only.K,acond k,id_eq]
theorem culetref28_Calc_only.ok:SOK Tryz.prog 78 (culetref28_Calc_only.sp culetref28_Calc_only):=by
  refine sok_of (E:=⟨[],[],[]⟩) (L:=[]) ⟨specs_nil,inl_nil,mixed_ok,lps_nil⟩ 40 Tryz.func78 (by decide) rfl no_loops fun vs bl v bl' h=> ?_
  unfold culetref28_Calc_only.sp at h
  split at h
  · rename_i a1_0 a1_1 s0_0
    simp only [Option.some.injEq,Prod.mk.injEq,true_and] at h
    obtain ⟨rfl,rfl⟩:=h
    refine ⟨?_,by simp [okV,Nat.blt],clo_spec 8 _ (by kernel_rfl),told_blk (by kernel_rfl)⟩
    refine (culetref28_Calc_only.run s0_0 a1_0 a1_1).trans ?_
    refine (culetref28_Calc_only.nat s0_0 a1_0 a1_1 _).trans ?_
    kernel_rfl
  · cases h
def culetref28_Dot.K {R:Type} (f_culetref28_Valid:Int→Int→Int→Int→Int→Int→(Bool)) (f_culetref28_Calc_Add:Int→Int→Int→Int→Int→(Int×Int×Int)) (f_culetref28_Calc_Mul:Int→Int→Int→Int→Int→(Int×Int×Int)) (f_culetref28_Calc_only:Int→Int→Int→(Int×Int×Int×Int)) (a0_0:Int) (a0_1:Int) (a0_2:Int) (a0_3:Int) (a0_4:Int) (a0_5:Int) (a1_0:Int) (a1_1:Int) (a1_2:Int) (a1_3:Int) (a1_4:Int) (a1_5:Int) (k:Int×Int×Int→R):R:=
 let t0:=f_culetref28_Valid a0_0 a0_1 a0_2 a0_3 a0_4 a0_5
 bif !t0 then k (0,0,1) else
 let t1:=f_culetref28_Valid a1_0 a1_1 a1_2 a1_3 a1_4 a1_5
 bif !t1 then k (0,0,1) else
 let t2:=f_culetref28_Calc_Mul 0 a0_0 a0_1 a1_0 a1_1
 let t3:=f_culetref28_Calc_Mul t2.snd.snd a0_2 a0_3 a1_2 a1_3
 let t4:=f_culetref28_Calc_Mul t3.snd.snd a0_4 a0_5 a1_4 a1_5
 let t5:=f_culetref28_Calc_Add t4.snd.snd t2.fst t2.snd.fst t3.fst t3.snd.fst
 let t6:=f_culetref28_Calc_Add t5.snd.snd t5.fst t5.snd.fst t4.fst t4.snd.fst
 let t7:=f_culetref28_Calc_only t6.snd.snd t6.fst t6.snd.fst
 k (t7.fst,t7.snd.fst,t7.snd.snd.fst)
set_option maxRecDepth 100000 in
theorem culetref28_Dot.run (f_culetref28_Valid:Int→Int→Int→Int→Int→Int→(Bool)) (f_culetref28_Calc_Add:Int→Int→Int→Int→Int→(Int×Int×Int)) (f_culetref28_Calc_Mul:Int→Int→Int→Int→Int→(Int×Int×Int)) (f_culetref28_Calc_only:Int→Int→Int→(Int×Int×Int×Int)) (a0_0:Int) (a0_1:Int) (a0_2:Int) (a0_3:Int) (a0_4:Int) (a0_5:Int) (a1_0:Int) (a1_1:Int) (a1_2:Int) (a1_3:Int) (a1_4:Int) (a1_5:Int):xfn Tryz.prog ⟨[(34,culetref28_Valid.sp f_culetref28_Valid),(72,culetref28_Calc_Add.sp f_culetref28_Calc_Add),(77,culetref28_Calc_Mul.sp f_culetref28_Calc_Mul),(78,culetref28_Calc_only.sp f_culetref28_Calc_only)],[],[]⟩ [] 40 Tryz.f31 [.agg ⟨[.int .i64 a0_0,.int .i64 a0_1,.int .i64 a0_2,.int .i64 a0_3,.int .i64 a0_4,.int .i64 a0_5]⟩,.agg ⟨[.int .i64 a1_0,.int .i64 a1_1,.int .i64 a1_2,.int .i64 a1_3,.int .i64 a1_4,.int .i64 a1_5]⟩] []=culetref28_Dot.K f_culetref28_Valid f_culetref28_Calc_Add f_culetref28_Calc_Mul f_culetref28_Calc_only a0_0 a0_1 a0_2 a0_3 a0_4 a0_5 a1_0 a1_1 a1_2 a1_3 a1_4 a1_5 (fun r=>some (.tuple ⟨[.agg ⟨[.int .i64 r.1,.int .i64 r.2.1]⟩,.int .i64 r.2.2]⟩,[])):=by kernel_rfl
def culetref28_Dot (a0_0:Int) (a0_1:Int) (a0_2:Int) (a0_3:Int) (a0_4:Int) (a0_5:Int) (a1_0:Int) (a1_1:Int) (a1_2:Int) (a1_3:Int) (a1_4:Int) (a1_5:Int):Int×Int×Int:=culetref28_Dot.K culetref28_Valid culetref28_Calc_Add culetref28_Calc_Mul culetref28_Calc_only a0_0 a0_1 a0_2 a0_3 a0_4 a0_5 a1_0 a1_1 a1_2 a1_3 a1_4 a1_5 id
theorem culetref28_Dot.nat {R:Type} (f_culetref28_Valid:Int→Int→Int→Int→Int→Int→(Bool)) (f_culetref28_Calc_Add:Int→Int→Int→Int→Int→(Int×Int×Int)) (f_culetref28_Calc_Mul:Int→Int→Int→Int→Int→(Int×Int×Int)) (f_culetref28_Calc_only:Int→Int→Int→(Int×Int×Int×Int)) (a0_0:Int) (a0_1:Int) (a0_2:Int) (a0_3:Int) (a0_4:Int) (a0_5:Int) (a1_0:Int) (a1_1:Int) (a1_2:Int) (a1_3:Int) (a1_4:Int) (a1_5:Int) (k:Int×Int×Int→R):culetref28_Dot.K f_culetref28_Valid f_culetref28_Calc_Add f_culetref28_Calc_Mul f_culetref28_Calc_only a0_0 a0_1 a0_2 a0_3 a0_4 a0_5 a1_0 a1_1 a1_2 a1_3 a1_4 a1_5 k=k (culetref28_Dot.K f_culetref28_Valid f_culetref28_Calc_Add f_culetref28_Calc_Mul f_culetref28_Calc_only a0_0 a0_1 a0_2 a0_3 a0_4 a0_5 a1_0 a1_1 a1_2 a1_3 a1_4 a1_5 id):=by
  simp only [culetref28_Dot.K,acond k,id_eq]
theorem culetref28_Dot.eq (a0 a1 a2 a3 a4 a5 b0 b1 b2 b3 b4 b5:Int):culetref28_Dot a0 a1 a2 a3 a4 a5 b0 b1 b2 b3 b4 b5=o3 (ddot ((a0,a1),(a2,a3),(a4,a5)) ((b0,b1),(b2,b3),(b4,b5))):=by
  simp only [culetref28_Dot,culetref28_Dot.K,id_eq,culetref28_Valid.eq,culetref28_Calc_Mul.eq,culetref28_Calc_Add.eq,culetref28_Calc_only,culetref28_Calc_only.K,id_eq,ddot,mulR,addR]
  cases hV0:VB ((a0,a1),(a2,a3),(a4,a5)) with
  | false=>
    simp only [hV0,st0,kr0,st70,t3_ok,bind_ok,bind_er,o7,o3,o2,o11,V2_mk,kp0,cond_true,cond_false,Bool.not_true,Bool.not_false,Bool.false_and,Bool.and_false,Bool.true_and,Bool.and_true,bne_self_eq_false,beq_self_eq_true,if_true,if_false]
  | true=>
    cases hV1:VB ((b0,b1),(b2,b3),(b4,b5)) with
    | false=>
      simp only [hV0,hV1,st0,kr0,st70,t3_ok,bind_ok,bind_er,o7,o3,o2,o11,V2_mk,kp0,cond_true,cond_false,Bool.not_true,Bool.not_false,Bool.false_and,Bool.and_false,Bool.true_and,Bool.and_true,bne_self_eq_false,beq_self_eq_true,if_true,if_false]
    | true=>
      rcases t3c (imul a0 a1 b0 b1) with ⟨x0,x1,h0⟩|⟨x0,x1,e0,n0,h0⟩
      · simp only [hV0,hV1,h0,st0,kr0,st70,t3_ok,bind_ok,bind_er,o7,o3,o2,o11,V2_mk,kp0,cond_true,cond_false,Bool.not_true,Bool.not_false,Bool.false_and,Bool.and_false,Bool.true_and,Bool.and_true,bne_self_eq_false,beq_self_eq_true,if_true,if_false]
        rcases t3c (imul a2 a3 b2 b3) with ⟨y0,y1,h1⟩|⟨y0,y1,e1,n1,h1⟩
        · simp only [h1,st0,kr0,st70,t3_ok,bind_ok,bind_er,o7,o3,o2,o11,V2_mk,kp0,cond_true,cond_false,Bool.not_true,Bool.not_false,Bool.false_and,Bool.and_false,Bool.true_and,Bool.and_true,bne_self_eq_false,beq_self_eq_true,if_true,if_false]
          rcases t3c (imul a4 a5 b4 b5) with ⟨z0,z1,h2⟩|⟨z0,z1,e2,n2,h2⟩
          · simp only [h2,st0,kr0,st70,t3_ok,bind_ok,bind_er,o7,o3,o2,o11,V2_mk,kp0,cond_true,cond_false,Bool.not_true,Bool.not_false,Bool.false_and,Bool.and_false,Bool.true_and,Bool.and_true,bne_self_eq_false,beq_self_eq_true,if_true,if_false]
            rcases t3c (iadd x0 x1 y0 y1) with ⟨s0,s1,h3⟩|⟨s0,s1,e3,n3,h3⟩
            · simp only [h3,st0,kr0,st70,t3_ok,bind_ok,bind_er,o7,o3,o2,o11,V2_mk,kp0,cond_true,cond_false,Bool.not_true,Bool.not_false,Bool.false_and,Bool.and_false,Bool.true_and,Bool.and_true,bne_self_eq_false,beq_self_eq_true,if_true,if_false]
              rcases t3c (iadd s0 s1 z0 z1) with ⟨t0,t1,h4⟩|⟨t0,t1,e4,n4,h4⟩
              · simp only [h4,st0,kr0,st70,t3_ok,bind_ok,bind_er,o7,o3,o2,o11,V2_mk,kp0,cond_true,cond_false,Bool.not_true,Bool.not_false,Bool.false_and,Bool.and_false,Bool.true_and,Bool.and_true,bne_self_eq_false,beq_self_eq_true,if_true,if_false]
              · simp only [h4,stE n4,krE n4,st7E n4,t3_er n4,bne_of n4,beq_of n4,kpn _ n4,st0,kr0,st70,t3_ok,bind_ok,bind_er,o7,o3,o2,o11,V2_mk,kp0,cond_true,cond_false,Bool.not_true,Bool.not_false,Bool.false_and,Bool.and_false,Bool.true_and,Bool.and_true,bne_self_eq_false,beq_self_eq_true,if_true,if_false]
            · simp only [h3,stE n3,krE n3,st7E n3,t3_er n3,bne_of n3,beq_of n3,kpn _ n3,st0,kr0,st70,t3_ok,bind_ok,bind_er,o7,o3,o2,o11,V2_mk,kp0,cond_true,cond_false,Bool.not_true,Bool.not_false,Bool.false_and,Bool.and_false,Bool.true_and,Bool.and_true,bne_self_eq_false,beq_self_eq_true,if_true,if_false]
          · simp only [h2,stE n2,krE n2,st7E n2,t3_er n2,bne_of n2,beq_of n2,kpn _ n2,st0,kr0,st70,t3_ok,bind_ok,bind_er,o7,o3,o2,o11,V2_mk,kp0,cond_true,cond_false,Bool.not_true,Bool.not_false,Bool.false_and,Bool.and_false,Bool.true_and,Bool.and_true,bne_self_eq_false,beq_self_eq_true,if_true,if_false]
        · simp only [h1,stE n1,krE n1,st7E n1,t3_er n1,bne_of n1,beq_of n1,kpn _ n1,st0,kr0,st70,t3_ok,bind_ok,bind_er,o7,o3,o2,o11,V2_mk,kp0,cond_true,cond_false,Bool.not_true,Bool.not_false,Bool.false_and,Bool.and_false,Bool.true_and,Bool.and_true,bne_self_eq_false,beq_self_eq_true,if_true,if_false]
      · simp only [hV0,hV1,h0,stE n0,krE n0,st7E n0,t3_er n0,bne_of n0,beq_of n0,kpn _ n0,st0,kr0,st70,t3_ok,bind_ok,bind_er,o7,o3,o2,o11,V2_mk,kp0,cond_true,cond_false,Bool.not_true,Bool.not_false,Bool.false_and,Bool.and_false,Bool.true_and,Bool.and_true,bne_self_eq_false,beq_self_eq_true,if_true,if_false]
theorem culetref28_Dot.ok:SOK Tryz.prog 31 (culetref28_Dot.sp culetref28_Dot):=by
  refine sok_of (E:=⟨[(34,culetref28_Valid.sp culetref28_Valid),(72,culetref28_Calc_Add.sp culetref28_Calc_Add),(77,culetref28_Calc_Mul.sp culetref28_Calc_Mul),(78,culetref28_Calc_only.sp culetref28_Calc_only)],[],[]⟩) (L:=[]) ⟨(specs_cons culetref28_Valid.ok (specs_cons culetref28_Calc_Add.ok (specs_cons culetref28_Calc_Mul.ok (specs_cons culetref28_Calc_only.ok specs_nil)))),inl_nil,mixed_ok,lps_nil⟩ 40 Tryz.func31 (by decide) rfl no_loops fun vs bl v bl' h=> ?_
  unfold culetref28_Dot.sp at h
  split at h
  · rename_i a0_0 a0_1 a0_2 a0_3 a0_4 a0_5 a1_0 a1_1 a1_2 a1_3 a1_4 a1_5
    simp only [Option.some.injEq,Prod.mk.injEq,true_and] at h
    obtain ⟨rfl,rfl⟩:=h
    refine ⟨?_,by simp [okV,Nat.blt],clo_spec 8 _ (by kernel_rfl),told_blk (by kernel_rfl)⟩
    refine (culetref28_Dot.run culetref28_Valid culetref28_Calc_Add culetref28_Calc_Mul culetref28_Calc_only a0_0 a0_1 a0_2 a0_3 a0_4 a0_5 a1_0 a1_1 a1_2 a1_3 a1_4 a1_5).trans ?_
    refine (culetref28_Dot.nat culetref28_Valid culetref28_Calc_Add culetref28_Calc_Mul culetref28_Calc_only a0_0 a0_1 a0_2 a0_3 a0_4 a0_5 a1_0 a1_1 a1_2 a1_3 a1_4 a1_5 _).trans ?_
    kernel_rfl
  · cases h
def interval_Inside.K {R:Type} (f_interval_Valid:Int→Int→(Bool)) (a0_0:Int) (a0_1:Int) (a1_0:Int) (a1_1:Int) (k:(Bool)→R):R:=
 let t0:=f_interval_Valid a0_0 a0_1
 bif !t0 then k (false) else
 let t1:=f_interval_Valid a1_0 a1_1
 bif !t1 then k (false) else bif decide (a0_0≥a1_0) then k (decide (a0_1≤a1_1)) else k (false)
set_option maxRecDepth 100000 in
theorem interval_Inside.run (f_interval_Valid:Int→Int→(Bool)) (a0_0:Int) (a0_1:Int) (a1_0:Int) (a1_1:Int):xfn Tryz.prog ⟨[(65,interval_Valid.sp f_interval_Valid)],[(129,Tryz.f129)],[]⟩ [] 40 Tryz.f79 [.agg ⟨[.int .i64 a0_0,.int .i64 a0_1]⟩,.agg ⟨[.int .i64 a1_0,.int .i64 a1_1]⟩] []=interval_Inside.K f_interval_Valid a0_0 a0_1 a1_0 a1_1 (fun r=>some (.bool r,[])):=by kernel_rfl
def interval_Inside (a0_0:Int) (a0_1:Int) (a1_0:Int) (a1_1:Int):Bool:=interval_Inside.K interval_Valid a0_0 a0_1 a1_0 a1_1 id
theorem interval_Inside.nat {R:Type} (f_interval_Valid:Int→Int→(Bool)) (a0_0:Int) (a0_1:Int) (a1_0:Int) (a1_1:Int) (k:(Bool)→R):interval_Inside.K f_interval_Valid a0_0 a0_1 a1_0 a1_1 k=k (interval_Inside.K f_interval_Valid a0_0 a0_1 a1_0 a1_1 id):=by
  simp only [interval_Inside.K,acond k,id_eq]
def inb (a b c d:Int):Bool:=V a b&&(V c d&&(decide (c≤a)&&decide (b≤d)))
theorem inb_of {a b c d:Int} (h1:V a b=true) (h2:V c d=true) (h3:c≤a) (h4:b≤d):inb a b c d=true:=by simp only [inb,h1,h2,h3,h4,decide_true,Bool.and_self]
theorem interval_Inside.eq (a b c d:Int):interval_Inside a b c d=inb a b c d:=by
  simp only [interval_Inside,interval_Inside.K,id_eq,interval_Valid.eq,inb]
  cases V a b<;>cases V c d<;>by_cases h1:c≤a<;>simp [h1]
theorem interval_Inside.ok:SOK Tryz.prog 79 (interval_Inside.sp interval_Inside):=by
  refine sok_of (E:=⟨[(65,interval_Valid.sp interval_Valid)],[(129,Tryz.f129)],[]⟩) (L:=[]) ⟨(specs_cons interval_Valid.ok specs_nil),(inl_cons ⟨Tryz.func129,by decide,rfl⟩ inl_nil),mixed_ok,lps_nil⟩ 40 Tryz.func79 (by decide) rfl no_loops fun vs bl v bl' h=> ?_
  unfold interval_Inside.sp at h
  split at h
  · rename_i a0_0 a0_1 a1_0 a1_1
    simp only [Option.some.injEq,Prod.mk.injEq,true_and] at h
    obtain ⟨rfl,rfl⟩:=h
    refine ⟨?_,by simp [okV,Nat.blt],clo_spec 8 _ (by kernel_rfl),told_blk (by kernel_rfl)⟩
    refine (interval_Inside.run interval_Valid a0_0 a0_1 a1_0 a1_1).trans ?_
    refine (interval_Inside.nat interval_Valid a0_0 a0_1 a1_0 a1_1 _).trans ?_
    kernel_rfl
  · cases h
def direction_Inside.K {R:Type} (f_interval_Inside:Int→Int→Int→Int→(Bool)) (a0_0:Int) (a0_1:Int) (a0_2:Int) (a0_3:Int) (a0_4:Int) (a0_5:Int) (a1_0:Int) (a1_1:Int) (a1_2:Int) (a1_3:Int) (a1_4:Int) (a1_5:Int) (k:(Bool)→R):R:=
 let t0:=f_interval_Inside a0_0 a0_1 a1_0 a1_1
 bif t0 then
 let t1:=f_interval_Inside a0_2 a0_3 a1_2 a1_3
 bif t1 then
 let t2:=f_interval_Inside a0_4 a0_5 a1_4 a1_5
 k (t2) else k (false) else k (false)
set_option maxRecDepth 100000 in
theorem direction_Inside.run (f_interval_Inside:Int→Int→Int→Int→(Bool)) (a0_0:Int) (a0_1:Int) (a0_2:Int) (a0_3:Int) (a0_4:Int) (a0_5:Int) (a1_0:Int) (a1_1:Int) (a1_2:Int) (a1_3:Int) (a1_4:Int) (a1_5:Int):xfn Tryz.prog ⟨[(79,interval_Inside.sp f_interval_Inside)],[],[]⟩ [] 40 Tryz.f32 [.agg ⟨[.int .i64 a0_0,.int .i64 a0_1,.int .i64 a0_2,.int .i64 a0_3,.int .i64 a0_4,.int .i64 a0_5]⟩,.agg ⟨[.int .i64 a1_0,.int .i64 a1_1,.int .i64 a1_2,.int .i64 a1_3,.int .i64 a1_4,.int .i64 a1_5]⟩] []=direction_Inside.K f_interval_Inside a0_0 a0_1 a0_2 a0_3 a0_4 a0_5 a1_0 a1_1 a1_2 a1_3 a1_4 a1_5 (fun r=>some (.bool r,[])):=by kernel_rfl
def direction_Inside (a0_0:Int) (a0_1:Int) (a0_2:Int) (a0_3:Int) (a0_4:Int) (a0_5:Int) (a1_0:Int) (a1_1:Int) (a1_2:Int) (a1_3:Int) (a1_4:Int) (a1_5:Int):Bool:=direction_Inside.K interval_Inside a0_0 a0_1 a0_2 a0_3 a0_4 a0_5 a1_0 a1_1 a1_2 a1_3 a1_4 a1_5 id
theorem direction_Inside.nat {R:Type} (f_interval_Inside:Int→Int→Int→Int→(Bool)) (a0_0:Int) (a0_1:Int) (a0_2:Int) (a0_3:Int) (a0_4:Int) (a0_5:Int) (a1_0:Int) (a1_1:Int) (a1_2:Int) (a1_3:Int) (a1_4:Int) (a1_5:Int) (k:(Bool)→R):direction_Inside.K f_interval_Inside a0_0 a0_1 a0_2 a0_3 a0_4 a0_5 a1_0 a1_1 a1_2 a1_3 a1_4 a1_5 k=k (direction_Inside.K f_interval_Inside a0_0 a0_1 a0_2 a0_3 a0_4 a0_5 a1_0 a1_1 a1_2 a1_3 a1_4 a1_5 id):=by
  simp only [direction_Inside.K,acond k,id_eq]
theorem direction_Inside.of {a0 a1 a2 a3 a4 a5 b0 b1 b2 b3 b4 b5:Int} (h0:inb a0 a1 b0 b1=true) (h1:inb a2 a3 b2 b3=true) (h2:inb a4 a5 b4 b5=true):direction_Inside a0 a1 a2 a3 a4 a5 b0 b1 b2 b3 b4 b5=true:=by
  simp only [direction_Inside,direction_Inside.K,id_eq,interval_Inside.eq,h0,h1,h2,cond_true]
theorem direction_Inside.ok:SOK Tryz.prog 32 (direction_Inside.sp direction_Inside):=by
  refine sok_of (E:=⟨[(79,interval_Inside.sp interval_Inside)],[],[]⟩) (L:=[]) ⟨(specs_cons interval_Inside.ok specs_nil),inl_nil,mixed_ok,lps_nil⟩ 40 Tryz.func32 (by decide) rfl no_loops fun vs bl v bl' h=> ?_
  unfold direction_Inside.sp at h
  split at h
  · rename_i a0_0 a0_1 a0_2 a0_3 a0_4 a0_5 a1_0 a1_1 a1_2 a1_3 a1_4 a1_5
    simp only [Option.some.injEq,Prod.mk.injEq,true_and] at h
    obtain ⟨rfl,rfl⟩:=h
    refine ⟨?_,by simp [okV,Nat.blt],clo_spec 8 _ (by kernel_rfl),told_blk (by kernel_rfl)⟩
    refine (direction_Inside.run interval_Inside a0_0 a0_1 a0_2 a0_3 a0_4 a0_5 a1_0 a1_1 a1_2 a1_3 a1_4 a1_5).trans ?_
    refine (direction_Inside.nat interval_Inside a0_0 a0_1 a0_2 a0_3 a0_4 a0_5 a1_0 a1_1 a1_2 a1_3 a1_4 a1_5 _).trans ?_
    kernel_rfl
  · cases h
def culetref27_Inside.K {R:Type} (f_culetref27_both:Int→Int→Int→Int→(Bool)) (a0_0:Int) (a0_1:Int) (a1_0:Int) (a1_1:Int) (k:(Bool)→R):R:=
 let t0:=f_culetref27_both a0_0 a0_1 a1_0 a1_1
 bif t0 then bif decide (a1_0≤a0_0) then k (decide (a0_1≤a1_1)) else k (false) else k (false)
set_option maxRecDepth 100000 in
theorem culetref27_Inside.run (f_culetref27_both:Int→Int→Int→Int→(Bool)) (a0_0:Int) (a0_1:Int) (a1_0:Int) (a1_1:Int):xfn Tryz.prog ⟨[(82,culetref27_both.sp f_culetref27_both)],[],[]⟩ [] 40 Tryz.f37 [.agg ⟨[.int .i64 a0_0,.int .i64 a0_1]⟩,.agg ⟨[.int .i64 a1_0,.int .i64 a1_1]⟩] []=culetref27_Inside.K f_culetref27_both a0_0 a0_1 a1_0 a1_1 (fun r=>some (.bool r,[])):=by kernel_rfl
def culetref27_Inside (a0_0:Int) (a0_1:Int) (a1_0:Int) (a1_1:Int):Bool:=culetref27_Inside.K culetref27_both a0_0 a0_1 a1_0 a1_1 id
theorem culetref27_Inside.nat {R:Type} (f_culetref27_both:Int→Int→Int→Int→(Bool)) (a0_0:Int) (a0_1:Int) (a1_0:Int) (a1_1:Int) (k:(Bool)→R):culetref27_Inside.K f_culetref27_both a0_0 a0_1 a1_0 a1_1 k=k (culetref27_Inside.K f_culetref27_both a0_0 a0_1 a1_0 a1_1 id):=by
  simp only [culetref27_Inside.K,acond k,id_eq]
theorem culetref27_Inside.of {a b c d:Int} (h:inb a b c d=true):culetref27_Inside a b c d=true:=by
  simp only [inb,Bool.and_eq_true,decide_eq_true_eq] at h
  simp only [culetref27_Inside,culetref27_Inside.K,id_eq,culetref27_both.eq,h,Bool.and_self,cond_true,decide_true]
theorem S2.inb {x y X Y:Int} (h:S2 (x,y) (X,Y)):inb x y X Y=true:=by
  have:=h.1
  unfold In at this
  exact inb_of h.v h.2 this.1 this.2.2
theorem culetref27_Inside.ok:SOK Tryz.prog 37 (culetref27_Inside.sp culetref27_Inside):=by
  refine sok_of (E:=⟨[(82,culetref27_both.sp culetref27_both)],[],[]⟩) (L:=[]) ⟨(specs_cons culetref27_both.ok specs_nil),inl_nil,mixed_ok,lps_nil⟩ 40 Tryz.func37 (by decide) rfl no_loops fun vs bl v bl' h=> ?_
  unfold culetref27_Inside.sp at h
  split at h
  · rename_i a0_0 a0_1 a1_0 a1_1
    simp only [Option.some.injEq,Prod.mk.injEq,true_and] at h
    obtain ⟨rfl,rfl⟩:=h
    refine ⟨?_,by simp [okV,Nat.blt],clo_spec 8 _ (by kernel_rfl),told_blk (by kernel_rfl)⟩
    refine (culetref27_Inside.run culetref27_both a0_0 a0_1 a1_0 a1_1).trans ?_
    refine (culetref27_Inside.nat culetref27_both a0_0 a0_1 a1_0 a1_1 _).trans ?_
    kernel_rfl
  · cases h
def culetref28_Inside.K {R:Type} (f_culetref27_Inside:Int→Int→Int→Int→(Bool)) (a0_0:Int) (a0_1:Int) (a0_2:Int) (a0_3:Int) (a0_4:Int) (a0_5:Int) (a1_0:Int) (a1_1:Int) (a1_2:Int) (a1_3:Int) (a1_4:Int) (a1_5:Int) (k:(Bool)→R):R:=
 let t0:=f_culetref27_Inside a0_0 a0_1 a1_0 a1_1
 bif t0 then
 let t1:=f_culetref27_Inside a0_2 a0_3 a1_2 a1_3
 bif t1 then
 let t2:=f_culetref27_Inside a0_4 a0_5 a1_4 a1_5
 k (t2) else k (false) else k (false)
set_option maxRecDepth 100000 in
theorem culetref28_Inside.run (f_culetref27_Inside:Int→Int→Int→Int→(Bool)) (a0_0:Int) (a0_1:Int) (a0_2:Int) (a0_3:Int) (a0_4:Int) (a0_5:Int) (a1_0:Int) (a1_1:Int) (a1_2:Int) (a1_3:Int) (a1_4:Int) (a1_5:Int):xfn Tryz.prog ⟨[(37,culetref27_Inside.sp f_culetref27_Inside)],[],[]⟩ [] 40 Tryz.f33 [.agg ⟨[.int .i64 a0_0,.int .i64 a0_1,.int .i64 a0_2,.int .i64 a0_3,.int .i64 a0_4,.int .i64 a0_5]⟩,.agg ⟨[.int .i64 a1_0,.int .i64 a1_1,.int .i64 a1_2,.int .i64 a1_3,.int .i64 a1_4,.int .i64 a1_5]⟩] []=culetref28_Inside.K f_culetref27_Inside a0_0 a0_1 a0_2 a0_3 a0_4 a0_5 a1_0 a1_1 a1_2 a1_3 a1_4 a1_5 (fun r=>some (.bool r,[])):=by kernel_rfl
def culetref28_Inside (a0_0:Int) (a0_1:Int) (a0_2:Int) (a0_3:Int) (a0_4:Int) (a0_5:Int) (a1_0:Int) (a1_1:Int) (a1_2:Int) (a1_3:Int) (a1_4:Int) (a1_5:Int):Bool:=culetref28_Inside.K culetref27_Inside a0_0 a0_1 a0_2 a0_3 a0_4 a0_5 a1_0 a1_1 a1_2 a1_3 a1_4 a1_5 id
theorem culetref28_Inside.nat {R:Type} (f_culetref27_Inside:Int→Int→Int→Int→(Bool)) (a0_0:Int) (a0_1:Int) (a0_2:Int) (a0_3:Int) (a0_4:Int) (a0_5:Int) (a1_0:Int) (a1_1:Int) (a1_2:Int) (a1_3:Int) (a1_4:Int) (a1_5:Int) (k:(Bool)→R):culetref28_Inside.K f_culetref27_Inside a0_0 a0_1 a0_2 a0_3 a0_4 a0_5 a1_0 a1_1 a1_2 a1_3 a1_4 a1_5 k=k (culetref28_Inside.K f_culetref27_Inside a0_0 a0_1 a0_2 a0_3 a0_4 a0_5 a1_0 a1_1 a1_2 a1_3 a1_4 a1_5 id):=by
  simp only [culetref28_Inside.K,acond k,id_eq]
theorem culetref28_Inside.eq (a0 a1 a2 a3 a4 a5 b0 b1 b2 b3 b4 b5:Int):culetref28_Inside a0 a1 a2 a3 a4 a5 b0 b1 b2 b3 b4 b5=(culetref27_Inside a0 a1 b0 b1&&(culetref27_Inside a2 a3 b2 b3&&culetref27_Inside a4 a5 b4 b5)):=by
  simp only [culetref28_Inside,culetref28_Inside.K,id_eq]
  cases culetref27_Inside a0 a1 b0 b1<;>cases culetref27_Inside a2 a3 b2 b3<;>rfl
theorem culetref28_Inside.ok:SOK Tryz.prog 33 (culetref28_Inside.sp culetref28_Inside):=by
  refine sok_of (E:=⟨[(37,culetref27_Inside.sp culetref27_Inside)],[],[]⟩) (L:=[]) ⟨(specs_cons culetref27_Inside.ok specs_nil),inl_nil,mixed_ok,lps_nil⟩ 40 Tryz.func33 (by decide) rfl no_loops fun vs bl v bl' h=> ?_
  unfold culetref28_Inside.sp at h
  split at h
  · rename_i a0_0 a0_1 a0_2 a0_3 a0_4 a0_5 a1_0 a1_1 a1_2 a1_3 a1_4 a1_5
    simp only [Option.some.injEq,Prod.mk.injEq,true_and] at h
    obtain ⟨rfl,rfl⟩:=h
    refine ⟨?_,by simp [okV,Nat.blt],clo_spec 8 _ (by kernel_rfl),told_blk (by kernel_rfl)⟩
    refine (culetref28_Inside.run culetref27_Inside a0_0 a0_1 a0_2 a0_3 a0_4 a0_5 a1_0 a1_1 a1_2 a1_3 a1_4 a1_5).trans ?_
    refine (culetref28_Inside.nat culetref27_Inside a0_0 a0_1 a0_2 a0_3 a0_4 a0_5 a1_0 a1_1 a1_2 a1_3 a1_4 a1_5 _).trans ?_
    kernel_rfl
  · cases h
def culetlaw28_DirectionArithmetic.K {R:Type} (f_direction_Add:Int→Int→Int→Int→Int→Int→Int→Int→Int→Int→Int→Int→(Int×Int×Int×Int×Int×Int×Int)) (f_culetref28_Add:Int→Int→Int→Int→Int→Int→Int→Int→Int→Int→Int→Int→(Int×Int×Int×Int×Int×Int×Int)) (f_culetlaw28_theirs:Int→Int→Int→Int→Int→Int→(Int×Int×Int×Int×Int×Int)) (f_direction_Sub:Int→Int→Int→Int→Int→Int→Int→Int→Int→Int→Int→Int→(Int×Int×Int×Int×Int×Int×Int)) (f_culetref28_Sub:Int→Int→Int→Int→Int→Int→Int→Int→Int→Int→Int→Int→(Int×Int×Int×Int×Int×Int×Int)) (f_direction_Scale:Int→Int→Int→Int→Int→Int→Int→Int→(Int×Int×Int×Int×Int×Int×Int)) (f_culetref28_Scale:Int→Int→Int→Int→Int→Int→Int→Int→(Int×Int×Int×Int×Int×Int×Int)) (f_direction_Dot:Int→Int→Int→Int→Int→Int→Int→Int→Int→Int→Int→Int→(Int×Int×Int)) (f_culetref28_Dot:Int→Int→Int→Int→Int→Int→Int→Int→Int→Int→Int→Int→(Int×Int×Int)) (f_direction_Inside:Int→Int→Int→Int→Int→Int→Int→Int→Int→Int→Int→Int→(Bool)) (f_culetref28_Inside:Int→Int→Int→Int→Int→Int→Int→Int→Int→Int→Int→Int→(Bool)) (a0_0:Int) (a0_1:Int) (a0_2:Int) (a0_3:Int) (a0_4:Int) (a0_5:Int) (a1_0:Int) (a1_1:Int) (a1_2:Int) (a1_3:Int) (a1_4:Int) (a1_5:Int) (a2_0:Int) (a2_1:Int) (k:(Bool)→R):R:=
 let t0:=f_direction_Add a0_0 a0_1 a0_2 a0_3 a0_4 a0_5 a1_0 a1_1 a1_2 a1_3 a1_4 a1_5
 let t1:=f_culetlaw28_theirs t0.fst t0.snd.fst t0.snd.snd.fst t0.snd.snd.snd.fst t0.snd.snd.snd.snd.fst t0.snd.snd.snd.snd.snd.fst
 let t2:=f_culetlaw28_theirs a0_0 a0_1 a0_2 a0_3 a0_4 a0_5
 let t3:=f_culetlaw28_theirs a1_0 a1_1 a1_2 a1_3 a1_4 a1_5
 let t4:=f_culetref28_Add t2.fst t2.snd.fst t2.snd.snd.fst t2.snd.snd.snd.fst t2.snd.snd.snd.snd.fst t2.snd.snd.snd.snd.snd t3.fst t3.snd.fst t3.snd.snd.fst t3.snd.snd.snd.fst t3.snd.snd.snd.snd.fst t3.snd.snd.snd.snd.snd
 bif !(t1.fst==t4.fst&&t1.snd.fst==t4.snd.fst&&(t1.snd.snd.fst==t4.snd.snd.fst&&t1.snd.snd.snd.fst==t4.snd.snd.snd.fst&&(t1.snd.snd.snd.snd.fst==t4.snd.snd.snd.snd.fst&&t1.snd.snd.snd.snd.snd==t4.snd.snd.snd.snd.snd.fst))) then k (false) else bif t0.snd.snd.snd.snd.snd.snd !=t4.snd.snd.snd.snd.snd.snd then k (false) else
 let t5:=f_direction_Sub a0_0 a0_1 a0_2 a0_3 a0_4 a0_5 a1_0 a1_1 a1_2 a1_3 a1_4 a1_5
 let t6:=f_culetlaw28_theirs t5.fst t5.snd.fst t5.snd.snd.fst t5.snd.snd.snd.fst t5.snd.snd.snd.snd.fst t5.snd.snd.snd.snd.snd.fst
 let t7:=f_culetref28_Sub t2.fst t2.snd.fst t2.snd.snd.fst t2.snd.snd.snd.fst t2.snd.snd.snd.snd.fst t2.snd.snd.snd.snd.snd t3.fst t3.snd.fst t3.snd.snd.fst t3.snd.snd.snd.fst t3.snd.snd.snd.snd.fst t3.snd.snd.snd.snd.snd
 bif !(t6.fst==t7.fst&&t6.snd.fst==t7.snd.fst&&(t6.snd.snd.fst==t7.snd.snd.fst&&t6.snd.snd.snd.fst==t7.snd.snd.snd.fst&&(t6.snd.snd.snd.snd.fst==t7.snd.snd.snd.snd.fst&&t6.snd.snd.snd.snd.snd==t7.snd.snd.snd.snd.snd.fst))) then k (false) else bif t5.snd.snd.snd.snd.snd.snd !=t7.snd.snd.snd.snd.snd.snd then k (false) else
 let t8:=f_direction_Scale a0_0 a0_1 a0_2 a0_3 a0_4 a0_5 a2_0 a2_1
 let t9:=f_culetlaw28_theirs t8.fst t8.snd.fst t8.snd.snd.fst t8.snd.snd.snd.fst t8.snd.snd.snd.snd.fst t8.snd.snd.snd.snd.snd.fst
 let t10:=f_culetref28_Scale t2.fst t2.snd.fst t2.snd.snd.fst t2.snd.snd.snd.fst t2.snd.snd.snd.snd.fst t2.snd.snd.snd.snd.snd a2_0 a2_1
 bif t9.fst==t10.fst&&t9.snd.fst==t10.snd.fst&&(t9.snd.snd.fst==t10.snd.snd.fst&&t9.snd.snd.snd.fst==t10.snd.snd.snd.fst&&(t9.snd.snd.snd.snd.fst==t10.snd.snd.snd.snd.fst&&t9.snd.snd.snd.snd.snd==t10.snd.snd.snd.snd.snd.fst)) then bif t8.snd.snd.snd.snd.snd.snd==t10.snd.snd.snd.snd.snd.snd then
 let t11:=f_direction_Dot a0_0 a0_1 a0_2 a0_3 a0_4 a0_5 a1_0 a1_1 a1_2 a1_3 a1_4 a1_5
 let t12:=f_culetref28_Dot t2.fst t2.snd.fst t2.snd.snd.fst t2.snd.snd.snd.fst t2.snd.snd.snd.snd.fst t2.snd.snd.snd.snd.snd t3.fst t3.snd.fst t3.snd.snd.fst t3.snd.snd.snd.fst t3.snd.snd.snd.snd.fst t3.snd.snd.snd.snd.snd
 bif t11.fst==t12.fst&&t11.snd.fst==t12.snd.fst then bif t11.snd.snd==t12.snd.snd then
 let t13:=f_direction_Inside a0_0 a0_1 a0_2 a0_3 a0_4 a0_5 a1_0 a1_1 a1_2 a1_3 a1_4 a1_5
 let t14:=f_culetref28_Inside t2.fst t2.snd.fst t2.snd.snd.fst t2.snd.snd.snd.fst t2.snd.snd.snd.snd.fst t2.snd.snd.snd.snd.snd t3.fst t3.snd.fst t3.snd.snd.fst t3.snd.snd.snd.fst t3.snd.snd.snd.snd.fst t3.snd.snd.snd.snd.snd
 k (t13==t14) else k (false) else k (false) else k (false) else k (false)
set_option maxRecDepth 100000 in
theorem culetlaw28_DirectionArithmetic.run (f_direction_Add:Int→Int→Int→Int→Int→Int→Int→Int→Int→Int→Int→Int→(Int×Int×Int×Int×Int×Int×Int)) (f_culetref28_Add:Int→Int→Int→Int→Int→Int→Int→Int→Int→Int→Int→Int→(Int×Int×Int×Int×Int×Int×Int)) (f_culetlaw28_theirs:Int→Int→Int→Int→Int→Int→(Int×Int×Int×Int×Int×Int)) (f_direction_Sub:Int→Int→Int→Int→Int→Int→Int→Int→Int→Int→Int→Int→(Int×Int×Int×Int×Int×Int×Int)) (f_culetref28_Sub:Int→Int→Int→Int→Int→Int→Int→Int→Int→Int→Int→Int→(Int×Int×Int×Int×Int×Int×Int)) (f_direction_Scale:Int→Int→Int→Int→Int→Int→Int→Int→(Int×Int×Int×Int×Int×Int×Int)) (f_culetref28_Scale:Int→Int→Int→Int→Int→Int→Int→Int→(Int×Int×Int×Int×Int×Int×Int)) (f_direction_Dot:Int→Int→Int→Int→Int→Int→Int→Int→Int→Int→Int→Int→(Int×Int×Int)) (f_culetref28_Dot:Int→Int→Int→Int→Int→Int→Int→Int→Int→Int→Int→Int→(Int×Int×Int)) (f_direction_Inside:Int→Int→Int→Int→Int→Int→Int→Int→Int→Int→Int→Int→(Bool)) (f_culetref28_Inside:Int→Int→Int→Int→Int→Int→Int→Int→Int→Int→Int→Int→(Bool)) (a0_0:Int) (a0_1:Int) (a0_2:Int) (a0_3:Int) (a0_4:Int) (a0_5:Int) (a1_0:Int) (a1_1:Int) (a1_2:Int) (a1_3:Int) (a1_4:Int) (a1_5:Int) (a2_0:Int) (a2_1:Int):xfn Tryz.prog ⟨[(10,culetlaw28_awake.sp),(10,culetlaw28_awake.sp),(23,direction_Add.sp f_direction_Add),(24,culetref28_Add.sp f_culetref28_Add),(25,culetlaw28_theirs.sp f_culetlaw28_theirs),(26,direction_Sub.sp f_direction_Sub),(27,culetref28_Sub.sp f_culetref28_Sub),(28,direction_Scale.sp f_direction_Scale),(29,culetref28_Scale.sp f_culetref28_Scale),(30,direction_Dot.sp f_direction_Dot),(31,culetref28_Dot.sp f_culetref28_Dot),(32,direction_Inside.sp f_direction_Inside),(33,culetref28_Inside.sp f_culetref28_Inside)],[],[]⟩ [] 40 Tryz.f5 [.agg ⟨[.int .i64 a0_0,.int .i64 a0_1,.int .i64 a0_2,.int .i64 a0_3,.int .i64 a0_4,.int .i64 a0_5]⟩,.agg ⟨[.int .i64 a1_0,.int .i64 a1_1,.int .i64 a1_2,.int .i64 a1_3,.int .i64 a1_4,.int .i64 a1_5]⟩,.agg ⟨[.int .i64 a2_0,.int .i64 a2_1]⟩] []=culetlaw28_DirectionArithmetic.K f_direction_Add f_culetref28_Add f_culetlaw28_theirs f_direction_Sub f_culetref28_Sub f_direction_Scale f_culetref28_Scale f_direction_Dot f_culetref28_Dot f_direction_Inside f_culetref28_Inside a0_0 a0_1 a0_2 a0_3 a0_4 a0_5 a1_0 a1_1 a1_2 a1_3 a1_4 a1_5 a2_0 a2_1 (fun r=>some (.bool r,[])):=by kernel_rfl
def culetlaw28_DirectionArithmetic (a0_0:Int) (a0_1:Int) (a0_2:Int) (a0_3:Int) (a0_4:Int) (a0_5:Int) (a1_0:Int) (a1_1:Int) (a1_2:Int) (a1_3:Int) (a1_4:Int) (a1_5:Int) (a2_0:Int) (a2_1:Int):Bool:=culetlaw28_DirectionArithmetic.K direction_Add culetref28_Add culetlaw28_theirs direction_Sub culetref28_Sub direction_Scale culetref28_Scale direction_Dot culetref28_Dot direction_Inside culetref28_Inside a0_0 a0_1 a0_2 a0_3 a0_4 a0_5 a1_0 a1_1 a1_2 a1_3 a1_4 a1_5 a2_0 a2_1 id
theorem culetlaw28_DirectionArithmetic.nat {R:Type} (f_direction_Add:Int→Int→Int→Int→Int→Int→Int→Int→Int→Int→Int→Int→(Int×Int×Int×Int×Int×Int×Int)) (f_culetref28_Add:Int→Int→Int→Int→Int→Int→Int→Int→Int→Int→Int→Int→(Int×Int×Int×Int×Int×Int×Int)) (f_culetlaw28_theirs:Int→Int→Int→Int→Int→Int→(Int×Int×Int×Int×Int×Int)) (f_direction_Sub:Int→Int→Int→Int→Int→Int→Int→Int→Int→Int→Int→Int→(Int×Int×Int×Int×Int×Int×Int)) (f_culetref28_Sub:Int→Int→Int→Int→Int→Int→Int→Int→Int→Int→Int→Int→(Int×Int×Int×Int×Int×Int×Int)) (f_direction_Scale:Int→Int→Int→Int→Int→Int→Int→Int→(Int×Int×Int×Int×Int×Int×Int)) (f_culetref28_Scale:Int→Int→Int→Int→Int→Int→Int→Int→(Int×Int×Int×Int×Int×Int×Int)) (f_direction_Dot:Int→Int→Int→Int→Int→Int→Int→Int→Int→Int→Int→Int→(Int×Int×Int)) (f_culetref28_Dot:Int→Int→Int→Int→Int→Int→Int→Int→Int→Int→Int→Int→(Int×Int×Int)) (f_direction_Inside:Int→Int→Int→Int→Int→Int→Int→Int→Int→Int→Int→Int→(Bool)) (f_culetref28_Inside:Int→Int→Int→Int→Int→Int→Int→Int→Int→Int→Int→Int→(Bool)) (a0_0:Int) (a0_1:Int) (a0_2:Int) (a0_3:Int) (a0_4:Int) (a0_5:Int) (a1_0:Int) (a1_1:Int) (a1_2:Int) (a1_3:Int) (a1_4:Int) (a1_5:Int) (a2_0:Int) (a2_1:Int) (k:(Bool)→R):culetlaw28_DirectionArithmetic.K f_direction_Add f_culetref28_Add f_culetlaw28_theirs f_direction_Sub f_culetref28_Sub f_direction_Scale f_culetref28_Scale f_direction_Dot f_culetref28_Dot f_direction_Inside f_culetref28_Inside a0_0 a0_1 a0_2 a0_3 a0_4 a0_5 a1_0 a1_1 a1_2 a1_3 a1_4 a1_5 a2_0 a2_1 k=k (culetlaw28_DirectionArithmetic.K f_direction_Add f_culetref28_Add f_culetlaw28_theirs f_direction_Sub f_culetref28_Sub f_direction_Scale f_culetref28_Scale f_direction_Dot f_culetref28_Dot f_direction_Inside f_culetref28_Inside a0_0 a0_1 a0_2 a0_3 a0_4 a0_5 a1_0 a1_1 a1_2 a1_3 a1_4 a1_5 a2_0 a2_1 id):=by
  simp only [culetlaw28_DirectionArithmetic.K,acond k,id_eq]
theorem inside27 (a b c d:Int):culetref27_Inside a b c d=inb a b c d:=by
  simp only [culetref27_Inside,culetref27_Inside.K,id_eq,culetref27_both.eq,inb]
  cases V a b<;>cases V c d<;>by_cases h1:c≤a<;>simp [h1]
theorem direction_Inside.eq (a0 a1 a2 a3 a4 a5 b0 b1 b2 b3 b4 b5:Int):direction_Inside a0 a1 a2 a3 a4 a5 b0 b1 b2 b3 b4 b5=(inb a0 a1 b0 b1&&(inb a2 a3 b2 b3&&inb a4 a5 b4 b5)):=by
  simp only [direction_Inside,direction_Inside.K,id_eq,interval_Inside.eq]
  cases inb a0 a1 b0 b1<;>cases inb a2 a3 b2 b3<;>rfl
theorem theirs_eq (a0 a1 a2 a3 a4 a5:Int):culetlaw28_theirs a0 a1 a2 a3 a4 a5=(a0,a1,a2,a3,a4,a5):=rfl
theorem DirectionArithmetic.law (a0 a1 a2 a3 a4 a5 b0 b1 b2 b3 b4 b5 r0 r1:Int):culetlaw28_DirectionArithmetic a0 a1 a2 a3 a4 a5 b0 b1 b2 b3 b4 b5 r0 r1=true:=by
  simp only [culetlaw28_DirectionArithmetic,culetlaw28_DirectionArithmetic.K,id_eq,theirs_eq,direction_Add.eq,culetref28_Add.eq,direction_Sub.eq,culetref28_Sub.eq,direction_Scale.eq,culetref28_Scale.eq,direction_Dot.eq,culetref28_Dot.eq,direction_Inside.eq,culetref28_Inside.eq,inside27,beq_self_eq_true,bne_self_eq_false,Bool.and_self,Bool.not_true,cond_true,cond_false]
theorem culetlaw28_DirectionArithmetic.calls (a0_0:Int) (a0_1:Int) (a0_2:Int) (a0_3:Int) (a0_4:Int) (a0_5:Int) (a1_0:Int) (a1_1:Int) (a1_2:Int) (a1_3:Int) (a1_4:Int) (a1_5:Int) (a2_0:Int) (a2_1:Int) (h:culetlaw28_DirectionArithmetic a0_0 a0_1 a0_2 a0_3 a0_4 a0_5 a1_0 a1_1 a1_2 a1_3 a1_4 a1_5 a2_0 a2_1=true) (w:World) (ht:TabOk w):Calls Tryz.prog 5 ⟨[.agg ⟨[.int .i64 a0_0,.int .i64 a0_1,.int .i64 a0_2,.int .i64 a0_3,.int .i64 a0_4,.int .i64 a0_5]⟩,.agg ⟨[.int .i64 a1_0,.int .i64 a1_1,.int .i64 a1_2,.int .i64 a1_3,.int .i64 a1_4,.int .i64 a1_5]⟩,.agg ⟨[.int .i64 a2_0,.int .i64 a2_1]⟩]⟩ w fun e w'=>e= .returned (.bool true)∧Below w.heap.size w w':=by
  refine calls_run (E:=⟨[(10,culetlaw28_awake.sp),(10,culetlaw28_awake.sp),(23,direction_Add.sp direction_Add),(24,culetref28_Add.sp culetref28_Add),(25,culetlaw28_theirs.sp culetlaw28_theirs),(26,direction_Sub.sp direction_Sub),(27,culetref28_Sub.sp culetref28_Sub),(28,direction_Scale.sp direction_Scale),(29,culetref28_Scale.sp culetref28_Scale),(30,direction_Dot.sp direction_Dot),(31,culetref28_Dot.sp culetref28_Dot),(32,direction_Inside.sp direction_Inside),(33,culetref28_Inside.sp culetref28_Inside)],[],[]⟩) (L:=[]) ⟨(specs_cons culetlaw28_awake.ok (specs_cons culetlaw28_awake.ok (specs_cons direction_Add.ok (specs_cons culetref28_Add.ok (specs_cons culetlaw28_theirs.ok (specs_cons direction_Sub.ok (specs_cons culetref28_Sub.ok (specs_cons direction_Scale.ok (specs_cons culetref28_Scale.ok (specs_cons direction_Dot.ok (specs_cons culetref28_Dot.ok (specs_cons direction_Inside.ok (specs_cons culetref28_Inside.ok specs_nil))))))))))))),inl_nil,mixed_ok,lps_nil⟩ 40 Tryz.func5 (by decide) rfl no_loops (vs:=[.agg ⟨[.int .i64 a0_0,.int .i64 a0_1,.int .i64 a0_2,.int .i64 a0_3,.int .i64 a0_4,.int .i64 a0_5]⟩,.agg ⟨[.int .i64 a1_0,.int .i64 a1_1,.int .i64 a1_2,.int .i64 a1_3,.int .i64 a1_4,.int .i64 a1_5]⟩,.agg ⟨[.int .i64 a2_0,.int .i64 a2_1]⟩]) (v:= .bool true) ?_ (by simp [okV,Nat.blt]) (clo_spec 8 _ rfl) w ht
  refine (culetlaw28_DirectionArithmetic.run direction_Add culetref28_Add culetlaw28_theirs direction_Sub culetref28_Sub direction_Scale culetref28_Scale direction_Dot culetref28_Dot direction_Inside culetref28_Inside a0_0 a0_1 a0_2 a0_3 a0_4 a0_5 a1_0 a1_1 a1_2 a1_3 a1_4 a1_5 a2_0 a2_1).trans ?_
  rw [culetlaw28_DirectionArithmetic.nat]
  have h4:culetlaw28_DirectionArithmetic.K direction_Add culetref28_Add culetlaw28_theirs direction_Sub culetref28_Sub direction_Scale culetref28_Scale direction_Dot culetref28_Dot direction_Inside culetref28_Inside a0_0 a0_1 a0_2 a0_3 a0_4 a0_5 a1_0 a1_1 a1_2 a1_3 a1_4 a1_5 a2_0 a2_1 id=true:=h
  rw [h4]
end Go.Proofs.YtpejalpgficopaaGreatDoor.G
end
section
namespace Go.Proofs.YtpejalpgficopaaGreatDoor.G
open Go Go.Proofs Go.RowKit RX
set_option linter.unusedVariables false
set_option linter.unusedSimpArgs false
def culetlaw28_within.K {R:Type} (a0_0:Int) (a0_1:Int) (a1:Int) (a2:Int) (k:Int×Int→Option R):Option R:=
 bif IntKind.i64.wrap (IntKind.i64.wrap (a0_1-a0_0)+1) !=0 then bif IntKind.i64.wrap (IntKind.i64.wrap (a0_1-a0_0)+1) !=0 then k (if IntKind.i64.wrap (a0_0+(IntKind.i64.wrap a2).tmod (IntKind.i64.wrap (IntKind.i64.wrap (a0_1-a0_0)+1)))<IntKind.i64.wrap (a0_0+(IntKind.i64.wrap a1).tmod (IntKind.i64.wrap (IntKind.i64.wrap (a0_1-a0_0)+1))) then IntKind.i64.wrap (a0_0+(IntKind.i64.wrap a2).tmod (IntKind.i64.wrap (IntKind.i64.wrap (a0_1-a0_0)+1))) else IntKind.i64.wrap (a0_0+(IntKind.i64.wrap a1).tmod (IntKind.i64.wrap (IntKind.i64.wrap (a0_1-a0_0)+1))),if IntKind.i64.wrap (a0_0+(IntKind.i64.wrap a2).tmod (IntKind.i64.wrap (IntKind.i64.wrap (a0_1-a0_0)+1)))>IntKind.i64.wrap (a0_0+(IntKind.i64.wrap a1).tmod (IntKind.i64.wrap (IntKind.i64.wrap (a0_1-a0_0)+1))) then IntKind.i64.wrap (a0_0+(IntKind.i64.wrap a2).tmod (IntKind.i64.wrap (IntKind.i64.wrap (a0_1-a0_0)+1))) else IntKind.i64.wrap (a0_0+(IntKind.i64.wrap a1).tmod (IntKind.i64.wrap (IntKind.i64.wrap (a0_1-a0_0)+1)))) else none else none
def culetlaw28_within.o (a0_0:Int) (a0_1:Int) (a1:Int) (a2:Int):Option (Int×Int):=culetlaw28_within.K a0_0 a0_1 a1 a2 some
def culetlaw28_within.pre (a0_0:Int) (a0_1:Int) (a1:Int) (a2:Int):Bool:=(culetlaw28_within.o a0_0 a0_1 a1 a2).isSome
def culetlaw28_within (a0_0:Int) (a0_1:Int) (a1:Int) (a2:Int):Int×Int:=(culetlaw28_within.o a0_0 a0_1 a1 a2).getD default
theorem culetlaw28_within.in {a b k l:Int} (hv:V a b=true) (hk:0≤k) (hk':k≤4294967295) (hl:0≤l) (hl':l≤4294967295):culetlaw28_within.pre a b k l=true∧S2 (culetlaw28_within a b k l) (a,b):=by
  have hV:=V_iff.1 hv
  have w1:IntKind.i64.wrap (b-a)=b-a:=w64 (by omega) (by omega)
  have w2:IntKind.i64.wrap (b-a+1)=b-a+1:=w64 (by omega) (by omega)
  have w3:IntKind.i64.wrap k=k:=w64 (by omega) (by omega)
  have w4:IntKind.i64.wrap l=l:=w64 (by omega) (by omega)
  have n0:((b-a+1) !=0)=true:=by simp; omega
  have m1:=Int.emod_nonneg k (show b-a+1≠0 by omega)
  have m2:=Int.emod_lt_of_pos k (show 0<b-a+1 by omega)
  have m3:=Int.emod_nonneg l (show b-a+1≠0 by omega)
  have m4:=Int.emod_lt_of_pos l (show 0<b-a+1 by omega)
  have t1:k.tmod (b-a+1)=k%(b-a+1):=Int.tmod_eq_emod_of_nonneg hk
  have t2:l.tmod (b-a+1)=l%(b-a+1):=Int.tmod_eq_emod_of_nonneg hl
  generalize k%(b-a+1)=x at*
  generalize l%(b-a+1)=y at*
  have w5:IntKind.i64.wrap (a+x)=a+x:=w64 (by omega) (by omega)
  have w6:IntKind.i64.wrap (a+y)=a+y:=w64 (by omega) (by omega)
  have ho:culetlaw28_within.o a b k l=some (if a+y<a+x then a+y else a+x,if a+y>a+x then a+y else a+x):=by
    simp only [culetlaw28_within.o,culetlaw28_within.K,w1,w2,w3,w4,n0,t1,t2,w5,w6,cond_true]
  have h2:culetlaw28_within a b k l=(if a+y<a+x then a+y else a+x,if a+y>a+x then a+y else a+x):=by unfold culetlaw28_within; rw [ho]; rfl
  refine ⟨by unfold culetlaw28_within.pre; rw [ho]; rfl,?_,hv⟩
  rw [h2,mnE,mxE]
  show In (min _ _) (max _ _) a b
  unfold In
  omega
def culetlaw28_Part.K {R:Type} (f_culetlaw28_within:Int→Int→Int→Int→(Int×Int)) (p_culetlaw28_within:Int→Int→Int→Int→Bool) (a0_0:Int) (a0_1:Int) (a0_2:Int) (a0_3:Int) (a0_4:Int) (a0_5:Int) (a1_0:Int) (a1_1:Int) (a1_2:Int) (a1_3:Int) (a1_4:Int) (a1_5:Int) (k:Int×Int×Int×Int×Int×Int→Option R):Option R:=
 let t0:=p_culetlaw28_within a0_0 a0_1 a1_0 a1_1
 bif t0 then
 let t1:=p_culetlaw28_within a0_2 a0_3 a1_2 a1_3
 bif t1 then
 let t2:=p_culetlaw28_within a0_4 a0_5 a1_4 a1_5
 bif t2 then
 let t3:=f_culetlaw28_within a0_0 a0_1 a1_0 a1_1
 let t4:=f_culetlaw28_within a0_2 a0_3 a1_2 a1_3
 let t5:=f_culetlaw28_within a0_4 a0_5 a1_4 a1_5
 k (t3.fst,t3.snd,t4.fst,t4.snd,t5.fst,t5.snd) else none else none else none
def culetlaw28_Part.o (a0_0:Int) (a0_1:Int) (a0_2:Int) (a0_3:Int) (a0_4:Int) (a0_5:Int) (a1_0:Int) (a1_1:Int) (a1_2:Int) (a1_3:Int) (a1_4:Int) (a1_5:Int):Option (Int×Int×Int×Int×Int×Int):=culetlaw28_Part.K culetlaw28_within culetlaw28_within.pre a0_0 a0_1 a0_2 a0_3 a0_4 a0_5 a1_0 a1_1 a1_2 a1_3 a1_4 a1_5 some
def culetlaw28_Part.pre (a0_0:Int) (a0_1:Int) (a0_2:Int) (a0_3:Int) (a0_4:Int) (a0_5:Int) (a1_0:Int) (a1_1:Int) (a1_2:Int) (a1_3:Int) (a1_4:Int) (a1_5:Int):Bool:=(culetlaw28_Part.o a0_0 a0_1 a0_2 a0_3 a0_4 a0_5 a1_0 a1_1 a1_2 a1_3 a1_4 a1_5).isSome
def culetlaw28_Part (a0_0:Int) (a0_1:Int) (a0_2:Int) (a0_3:Int) (a0_4:Int) (a0_5:Int) (a1_0:Int) (a1_1:Int) (a1_2:Int) (a1_3:Int) (a1_4:Int) (a1_5:Int):Int×Int×Int×Int×Int×Int:=(culetlaw28_Part.o a0_0 a0_1 a0_2 a0_3 a0_4 a0_5 a1_0 a1_1 a1_2 a1_3 a1_4 a1_5).getD default
def bxv (r:Int×Int×Int×Int×Int×Int):Bx:=((r.1,r.2.1),(r.2.2.1,r.2.2.2.1),(r.2.2.2.2.1,r.2.2.2.2.2))
theorem culetlaw28_Part.in {a0 a1 a2 a3 a4 a5 k0 k1 k2 k3 k4 k5:Int} (hv:VB ((a0,a1),(a2,a3),(a4,a5))=true) (h0:0≤k0∧k0≤4294967295) (h1:0≤k1∧k1≤4294967295) (h2:0≤k2∧k2≤4294967295) (h3:0≤k3∧k3≤4294967295) (h4:0≤k4∧k4≤4294967295) (h5:0≤k5∧k5≤4294967295):culetlaw28_Part.pre a0 a1 a2 a3 a4 a5 k0 k1 k2 k3 k4 k5=true∧SB (bxv (culetlaw28_Part a0 a1 a2 a3 a4 a5 k0 k1 k2 k3 k4 k5)) ((a0,a1),(a2,a3),(a4,a5)):=by
  rw [VB_iff] at hv
  have i0:=culetlaw28_within.in hv.1 h0.1 h0.2 h1.1 h1.2
  have i1:=culetlaw28_within.in hv.2.1 h2.1 h2.2 h3.1 h3.2
  have i2:=culetlaw28_within.in hv.2.2 h4.1 h4.2 h5.1 h5.2
  have ho:culetlaw28_Part.o a0 a1 a2 a3 a4 a5 k0 k1 k2 k3 k4 k5=some ((culetlaw28_within a0 a1 k0 k1).1,(culetlaw28_within a0 a1 k0 k1).2,(culetlaw28_within a2 a3 k2 k3).1,(culetlaw28_within a2 a3 k2 k3).2,(culetlaw28_within a4 a5 k4 k5).1,(culetlaw28_within a4 a5 k4 k5).2):=by
    simp only [culetlaw28_Part.o,culetlaw28_Part.K,i0.1,i1.1,i2.1,cond_true]
  refine ⟨by unfold culetlaw28_Part.pre; rw [ho]; rfl,?_⟩
  unfold culetlaw28_Part
  rw [ho]
  exact ⟨i0.2,i1.2,i2.2⟩
end Go.Proofs.YtpejalpgficopaaGreatDoor.G
end
section
namespace RX
open Go Go.RowKit
theorem okWide_agg {P:Program} {w:World} {r:Reach} {b:Nat} {t:TypeId} {v:Value} {ts:List TypeId} (hu:(match P.underlying t with|some (.struct _)=>true|some (.array _ _)=>true|_=>false)=true) (hc:P.cellTypes P.depth t=some ts) (hn:P.cellsOf t=ts.length) (h:Value.okWide P w r b t v):
    ∃l:List Value,v= .agg ⟨l⟩∧l.length=ts.length∧∀(i:Nat) (x:Value) (u:TypeId),l[i]? =some x→ts[i]? =some u→Cell.okWide P w r b u x:=by
  have key:∃cs,v= .agg cs∧cs.size=P.cellsOf t∧Row.okWide P w r b t cs:=by
    unfold Value.okWide at h
    split at h
    · exact h
    · exact h
    · rename_i h1 h2
      split at hu
      · rename_i hs; exact absurd hs (h1 _)
      · rename_i hs; exact absurd hs (h2 _ _)
      · cases hu
  obtain ⟨cs,rfl,hsz,ts',hts,_,hcell⟩:=key
  rw [hc] at hts
  injection hts with hts
  subst hts
  refine ⟨cs.toList,rfl,by simp [hsz,hn],fun i x u hx hu'=> ?_⟩
  have hx':cs[i]? =some x:=by simpa using hx
  obtain ⟨u',e,hk⟩:=hcell i x hx'
  have hlt:i<ts.length:=(List.getElem?_eq_some_iff.1 hu').1
  rw [Nat.mod_eq_of_lt hlt,hu'] at e
  injection e with e
  subst e
  exact hk
theorem len_succ {α:Type} {l:List α} {n:Nat} (h:l.length=n+1):∃x l',l=x::l'∧l'.length=n:=by
  cases l with
  |nil=>simp at h
  |cons x l'=>exact ⟨x,l',rfl,by simpa using h⟩
theorem len_zero {α:Type} {l:List α} (h:l.length=0):l=[]:=List.length_eq_zero_iff.1 h
theorem cell_int {P:Program} {w:World} {r:Reach} {b:Nat} {u:TypeId} {k:IntKind} {x:Value} (hu:P.underlying u=some (.int k)) (h:Cell.okWide P w r b u x):∃n,x= .int k n∧k.has n:=by
  unfold Cell.okWide at h
  rw [hu] at h
  cases x<;>simp [Cell.ok,hu] at h
  obtain ⟨rfl,h⟩:=h
  exact ⟨_,rfl,h⟩
theorem trod_lt {H:Type} {enc:TypeId×Value→H} {P:Program} {w:World} {spare:Nat→Bool} {held:Bool} {t:TypeId} {v:Value} {d:DataW H} {ps:List MemPlace} (h:DataW.Trod enc P w 0 spare held t v d ps):∀x∈ps,x.block<w.heap.size:=by
  obtain ⟨m,hm⟩:=h
  exact DataW.trod_lt m _ _ _ hm
end RX
end
