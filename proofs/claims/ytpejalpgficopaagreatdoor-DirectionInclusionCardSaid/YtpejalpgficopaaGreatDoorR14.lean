/- A part of what the law's proof leans on. PACKED BY pack.py of this repo. -/
import Derived.Test.YtpejalpgficopaaGreatDoorR13
section
namespace Go.Proofs.YtpejalpgficopaaGreatDoor.G
open Go Go.Proofs Go.RowKit RX
set_option linter.unusedVariables false
set_option linter.unusedSimpArgs false
def direction_calc_mul.K {R:Type} (f_direction_calc_two_interval_Add:Int→Int→Int→Int→Int→(Int×Int×Int)) (f_direction_calc_two_interval_Sub:Int→Int→Int→Int→Int→(Int×Int×Int)) (f_direction_calc_two_interval_Mul:Int→Int→Int→Int→Int→(Int×Int×Int)) (f_direction_calc_two_interval_Div:Int→Int→Int→Int→Int→(Int×Int×Int)) (f_interval_Mul:Int→Int→Int→Int→(Int×Int×Int)) (s0_0:Int) (a1_0:Int) (a1_1:Int) (a2_0:Int) (a2_1:Int) (k:Int×Int×Int→R):R:=
 let t0:=f_direction_calc_two_interval_Mul s0_0 a1_0 a1_1 a2_0 a2_1
 k (t0.fst,t0.snd.fst,t0.snd.snd)
set_option maxRecDepth 100000 in
theorem direction_calc_mul.run (f_direction_calc_two_interval_Add:Int→Int→Int→Int→Int→(Int×Int×Int)) (f_direction_calc_two_interval_Sub:Int→Int→Int→Int→Int→(Int×Int×Int)) (f_direction_calc_two_interval_Mul:Int→Int→Int→Int→Int→(Int×Int×Int)) (f_direction_calc_two_interval_Div:Int→Int→Int→Int→Int→(Int×Int×Int)) (f_interval_Mul:Int→Int→Int→Int→(Int×Int×Int)) (s0_0:Int) (a1_0:Int) (a1_1:Int) (a2_0:Int) (a2_1:Int):xfn Tryz.prog ⟨[(121,direction_calc_two.sp f_direction_calc_two_interval_Add f_direction_calc_two_interval_Sub f_direction_calc_two_interval_Mul f_direction_calc_two_interval_Div),(127,interval_Mul.sp f_interval_Mul)],[],[]⟩ [] 40 Tryz.f75 [.pointer (some ⟨0,0,none⟩),.agg ⟨[.int .i64 a1_0,.int .i64 a1_1]⟩,.agg ⟨[.int .i64 a2_0,.int .i64 a2_1]⟩] [.cs [.int .i64 s0_0] 98]=direction_calc_mul.K f_direction_calc_two_interval_Add f_direction_calc_two_interval_Sub f_direction_calc_two_interval_Mul f_direction_calc_two_interval_Div f_interval_Mul s0_0 a1_0 a1_1 a2_0 a2_1 (fun r=>some (.agg ⟨[.int .i64 r.1,.int .i64 r.2.1]⟩,[.cs [.int .i64 r.2.2] 98])):=by kernel_rfl
def direction_calc_mul (s0_0:Int) (a1_0:Int) (a1_1:Int) (a2_0:Int) (a2_1:Int):Int×Int×Int:=direction_calc_mul.K direction_calc_two_interval_Add direction_calc_two_interval_Sub direction_calc_two_interval_Mul direction_calc_two_interval_Div interval_Mul s0_0 a1_0 a1_1 a2_0 a2_1 id
theorem direction_calc_mul.nat {R:Type} (f_direction_calc_two_interval_Add:Int→Int→Int→Int→Int→(Int×Int×Int)) (f_direction_calc_two_interval_Sub:Int→Int→Int→Int→Int→(Int×Int×Int)) (f_direction_calc_two_interval_Mul:Int→Int→Int→Int→Int→(Int×Int×Int)) (f_direction_calc_two_interval_Div:Int→Int→Int→Int→Int→(Int×Int×Int)) (f_interval_Mul:Int→Int→Int→Int→(Int×Int×Int)) (s0_0:Int) (a1_0:Int) (a1_1:Int) (a2_0:Int) (a2_1:Int) (k:Int×Int×Int→R):direction_calc_mul.K f_direction_calc_two_interval_Add f_direction_calc_two_interval_Sub f_direction_calc_two_interval_Mul f_direction_calc_two_interval_Div f_interval_Mul s0_0 a1_0 a1_1 a2_0 a2_1 k=k (direction_calc_mul.K f_direction_calc_two_interval_Add f_direction_calc_two_interval_Sub f_direction_calc_two_interval_Mul f_direction_calc_two_interval_Div f_interval_Mul s0_0 a1_0 a1_1 a2_0 a2_1 id):=by
  simp only [direction_calc_mul.K,acond k,id_eq]
theorem direction_calc_mul.eq (s a b c d:Int):direction_calc_mul s a b c d=st s a b (imul a b c d):=by
  simp only [direction_calc_mul,direction_calc_mul.K,id_eq,direction_calc_two_interval_Mul.eq]
theorem direction_calc_mul.ok:SOK Tryz.prog 75 (direction_calc_mul.sp direction_calc_mul):=by
  refine sok_of (E:=⟨[(121,direction_calc_two.sp direction_calc_two_interval_Add direction_calc_two_interval_Sub direction_calc_two_interval_Mul direction_calc_two_interval_Div),(127,interval_Mul.sp interval_Mul)],[],[]⟩) (L:=[]) ⟨(specs_cons direction_calc_two.ok (specs_cons interval_Mul.ok specs_nil)),inl_nil,mixed_ok,lps_nil⟩ 40 Tryz.func75 (by decide) rfl no_loops fun vs bl v bl' h=> ?_
  unfold direction_calc_mul.sp at h
  split at h
  · rename_i a1_0 a1_1 a2_0 a2_1 s0_0
    simp only [Option.some.injEq,Prod.mk.injEq,true_and] at h
    obtain ⟨rfl,rfl⟩:=h
    refine ⟨?_,by simp [okV,Nat.blt],clo_spec 8 _ (by kernel_rfl),told_blk (by kernel_rfl)⟩
    refine (direction_calc_mul.run direction_calc_two_interval_Add direction_calc_two_interval_Sub direction_calc_two_interval_Mul direction_calc_two_interval_Div interval_Mul s0_0 a1_0 a1_1 a2_0 a2_1).trans ?_
    refine (direction_calc_mul.nat direction_calc_two_interval_Add direction_calc_two_interval_Sub direction_calc_two_interval_Mul direction_calc_two_interval_Div interval_Mul s0_0 a1_0 a1_1 a2_0 a2_1 _).trans ?_
    kernel_rfl
  · cases h
def direction_Scale.K {R:Type} (f_direction_Valid:Int→Int→Int→Int→Int→Int→(Bool)) (f_direction_calc_box:Int→Int→Int→Int→Int→Int→Int→(Int×Int×Int×Int×Int×Int×Int×Int)) (f_interval_Valid:Int→Int→(Bool)) (f_direction_calc_mul:Int→Int→Int→Int→Int→(Int×Int×Int)) (a0_0:Int) (a0_1:Int) (a0_2:Int) (a0_3:Int) (a0_4:Int) (a0_5:Int) (a1_0:Int) (a1_1:Int) (k:Int×Int×Int×Int×Int×Int×Int→R):R:=
 let t0:=f_direction_Valid a0_0 a0_1 a0_2 a0_3 a0_4 a0_5
 bif !t0 then k (0,0,0,0,0,0,1) else
 let t1:=f_interval_Valid a1_0 a1_1
 bif !t1 then k (0,0,0,0,0,0,1) else
 let t2:=f_direction_calc_mul 0 a0_0 a0_1 a1_0 a1_1
 let t3:=f_direction_calc_mul t2.snd.snd a0_2 a0_3 a1_0 a1_1
 let t4:=f_direction_calc_mul t3.snd.snd a0_4 a0_5 a1_0 a1_1
 let t5:=f_direction_calc_box t4.snd.snd t2.fst t2.snd.fst t3.fst t3.snd.fst t4.fst t4.snd.fst
 k (t5.fst,t5.snd.fst,t5.snd.snd.fst,t5.snd.snd.snd.fst,t5.snd.snd.snd.snd.fst,t5.snd.snd.snd.snd.snd.fst,t5.snd.snd.snd.snd.snd.snd.fst)
set_option maxRecDepth 100000 in
theorem direction_Scale.run (f_direction_Valid:Int→Int→Int→Int→Int→Int→(Bool)) (f_direction_calc_box:Int→Int→Int→Int→Int→Int→Int→(Int×Int×Int×Int×Int×Int×Int×Int)) (f_interval_Valid:Int→Int→(Bool)) (f_direction_calc_mul:Int→Int→Int→Int→Int→(Int×Int×Int)) (a0_0:Int) (a0_1:Int) (a0_2:Int) (a0_3:Int) (a0_4:Int) (a0_5:Int) (a1_0:Int) (a1_1:Int):xfn Tryz.prog ⟨[(49,direction_Valid.sp f_direction_Valid),(64,direction_calc_box.sp f_direction_calc_box),(65,interval_Valid.sp f_interval_Valid),(75,direction_calc_mul.sp f_direction_calc_mul)],[],[]⟩ [] 40 Tryz.f28 [.agg ⟨[.int .i64 a0_0,.int .i64 a0_1,.int .i64 a0_2,.int .i64 a0_3,.int .i64 a0_4,.int .i64 a0_5]⟩,.agg ⟨[.int .i64 a1_0,.int .i64 a1_1]⟩] []=direction_Scale.K f_direction_Valid f_direction_calc_box f_interval_Valid f_direction_calc_mul a0_0 a0_1 a0_2 a0_3 a0_4 a0_5 a1_0 a1_1 (fun r=>some (.tuple ⟨[.agg ⟨[.int .i64 r.1,.int .i64 r.2.1,.int .i64 r.2.2.1,.int .i64 r.2.2.2.1,.int .i64 r.2.2.2.2.1,.int .i64 r.2.2.2.2.2.1]⟩,.int .i64 r.2.2.2.2.2.2]⟩,[])):=by kernel_rfl
def direction_Scale (a0_0:Int) (a0_1:Int) (a0_2:Int) (a0_3:Int) (a0_4:Int) (a0_5:Int) (a1_0:Int) (a1_1:Int):Int×Int×Int×Int×Int×Int×Int:=direction_Scale.K direction_Valid direction_calc_box interval_Valid direction_calc_mul a0_0 a0_1 a0_2 a0_3 a0_4 a0_5 a1_0 a1_1 id
theorem direction_Scale.nat {R:Type} (f_direction_Valid:Int→Int→Int→Int→Int→Int→(Bool)) (f_direction_calc_box:Int→Int→Int→Int→Int→Int→Int→(Int×Int×Int×Int×Int×Int×Int×Int)) (f_interval_Valid:Int→Int→(Bool)) (f_direction_calc_mul:Int→Int→Int→Int→Int→(Int×Int×Int)) (a0_0:Int) (a0_1:Int) (a0_2:Int) (a0_3:Int) (a0_4:Int) (a0_5:Int) (a1_0:Int) (a1_1:Int) (k:Int×Int×Int×Int×Int×Int×Int→R):direction_Scale.K f_direction_Valid f_direction_calc_box f_interval_Valid f_direction_calc_mul a0_0 a0_1 a0_2 a0_3 a0_4 a0_5 a1_0 a1_1 k=k (direction_Scale.K f_direction_Valid f_direction_calc_box f_interval_Valid f_direction_calc_mul a0_0 a0_1 a0_2 a0_3 a0_4 a0_5 a1_0 a1_1 id):=by
  simp only [direction_Scale.K,acond k,id_eq]
theorem direction_Scale.eq (a0 a1 a2 a3 a4 a5 r0 r1:Int):direction_Scale a0 a1 a2 a3 a4 a5 r0 r1=o7 (dscale ((a0,a1),(a2,a3),(a4,a5)) (r0,r1)):=by
  simp only [direction_Scale,direction_Scale.K,id_eq,direction_Valid.eq,direction_calc_mul.eq,interval_Valid.eq,direction_calc_box,direction_calc_box.K,id_eq,dscale,dzip,mulR,V2]
  cases hV0:VB ((a0,a1),(a2,a3),(a4,a5)) with
  | false=>
    simp only [hV0,st0,kr0,st70,t3_ok,bind_ok,bind_er,o7,o3,o2,o11,V2_mk,kp0,cond_true,cond_false,Bool.not_true,Bool.not_false,Bool.false_and,Bool.and_false,Bool.true_and,Bool.and_true,bne_self_eq_false,beq_self_eq_true,if_true,if_false]
  | true=>
    cases hV1:V r0 r1 with
    | false=>
      simp only [hV0,hV1,st0,kr0,st70,t3_ok,bind_ok,bind_er,o7,o3,o2,o11,V2_mk,kp0,cond_true,cond_false,Bool.not_true,Bool.not_false,Bool.false_and,Bool.and_false,Bool.true_and,Bool.and_true,bne_self_eq_false,beq_self_eq_true,if_true,if_false]
    | true=>
      rcases t3c (imul a0 a1 r0 r1) with ⟨x0,x1,h0⟩|⟨x0,x1,e0,n0,h0⟩
      · simp only [hV0,hV1,h0,st0,kr0,st70,t3_ok,bind_ok,bind_er,o7,o3,o2,o11,V2_mk,kp0,cond_true,cond_false,Bool.not_true,Bool.not_false,Bool.false_and,Bool.and_false,Bool.true_and,Bool.and_true,bne_self_eq_false,beq_self_eq_true,if_true,if_false]
        rcases t3c (imul a2 a3 r0 r1) with ⟨y0,y1,h1⟩|⟨y0,y1,e1,n1,h1⟩
        · simp only [h1,st0,kr0,st70,t3_ok,bind_ok,bind_er,o7,o3,o2,o11,V2_mk,kp0,cond_true,cond_false,Bool.not_true,Bool.not_false,Bool.false_and,Bool.and_false,Bool.true_and,Bool.and_true,bne_self_eq_false,beq_self_eq_true,if_true,if_false]
          rcases t3c (imul a4 a5 r0 r1) with ⟨z0,z1,h2⟩|⟨z0,z1,e2,n2,h2⟩
          · simp only [h2,st0,kr0,st70,t3_ok,bind_ok,bind_er,o7,o3,o2,o11,V2_mk,kp0,cond_true,cond_false,Bool.not_true,Bool.not_false,Bool.false_and,Bool.and_false,Bool.true_and,Bool.and_true,bne_self_eq_false,beq_self_eq_true,if_true,if_false]
          · simp only [h2,stE n2,krE n2,st7E n2,t3_er n2,bne_of n2,beq_of n2,kpn _ n2,st0,kr0,st70,t3_ok,bind_ok,bind_er,o7,o3,o2,o11,V2_mk,kp0,cond_true,cond_false,Bool.not_true,Bool.not_false,Bool.false_and,Bool.and_false,Bool.true_and,Bool.and_true,bne_self_eq_false,beq_self_eq_true,if_true,if_false]
        · simp only [h1,stE n1,krE n1,st7E n1,t3_er n1,bne_of n1,beq_of n1,kpn _ n1,st0,kr0,st70,t3_ok,bind_ok,bind_er,o7,o3,o2,o11,V2_mk,kp0,cond_true,cond_false,Bool.not_true,Bool.not_false,Bool.false_and,Bool.and_false,Bool.true_and,Bool.and_true,bne_self_eq_false,beq_self_eq_true,if_true,if_false]
      · simp only [hV0,hV1,h0,stE n0,krE n0,st7E n0,t3_er n0,bne_of n0,beq_of n0,kpn _ n0,st0,kr0,st70,t3_ok,bind_ok,bind_er,o7,o3,o2,o11,V2_mk,kp0,cond_true,cond_false,Bool.not_true,Bool.not_false,Bool.false_and,Bool.and_false,Bool.true_and,Bool.and_true,bne_self_eq_false,beq_self_eq_true,if_true,if_false]
theorem direction_Scale.ok:SOK Tryz.prog 28 (direction_Scale.sp direction_Scale):=by
  refine sok_of (E:=⟨[(49,direction_Valid.sp direction_Valid),(64,direction_calc_box.sp direction_calc_box),(65,interval_Valid.sp interval_Valid),(75,direction_calc_mul.sp direction_calc_mul)],[],[]⟩) (L:=[]) ⟨(specs_cons direction_Valid.ok (specs_cons direction_calc_box.ok (specs_cons interval_Valid.ok (specs_cons direction_calc_mul.ok specs_nil)))),inl_nil,mixed_ok,lps_nil⟩ 40 Tryz.func28 (by decide) rfl no_loops fun vs bl v bl' h=> ?_
  unfold direction_Scale.sp at h
  split at h
  · rename_i a0_0 a0_1 a0_2 a0_3 a0_4 a0_5 a1_0 a1_1
    simp only [Option.some.injEq,Prod.mk.injEq,true_and] at h
    obtain ⟨rfl,rfl⟩:=h
    refine ⟨?_,by simp [okV,Nat.blt],clo_spec 8 _ (by kernel_rfl),told_blk (by kernel_rfl)⟩
    refine (direction_Scale.run direction_Valid direction_calc_box interval_Valid direction_calc_mul a0_0 a0_1 a0_2 a0_3 a0_4 a0_5 a1_0 a1_1).trans ?_
    refine (direction_Scale.nat direction_Valid direction_calc_box interval_Valid direction_calc_mul a0_0 a0_1 a0_2 a0_3 a0_4 a0_5 a1_0 a1_1 _).trans ?_
    kernel_rfl
  · cases h
def direction_calc_result.K {R:Type} (s0_0:Int) (a1_0:Int) (a1_1:Int) (k:Int×Int×Int×Int→R):R:=
 bif s0_0 !=0 then k (0,0,s0_0,s0_0) else k (a1_0,a1_1,0,s0_0)
set_option maxRecDepth 100000 in
theorem direction_calc_result.run (s0_0:Int) (a1_0:Int) (a1_1:Int):xfn Tryz.prog ⟨[],[],[]⟩ [] 40 Tryz.f71 [.pointer (some ⟨0,0,none⟩),.agg ⟨[.int .i64 a1_0,.int .i64 a1_1]⟩] [.cs [.int .i64 s0_0] 98]=direction_calc_result.K s0_0 a1_0 a1_1 (fun r=>some (.tuple ⟨[.agg ⟨[.int .i64 r.1,.int .i64 r.2.1]⟩,.int .i64 r.2.2.1]⟩,[.cs [.int .i64 r.2.2.2] 98])):=by kernel_rfl
def direction_calc_result (s0_0:Int) (a1_0:Int) (a1_1:Int):Int×Int×Int×Int:=direction_calc_result.K s0_0 a1_0 a1_1 id
theorem direction_calc_result.nat {R:Type} (s0_0:Int) (a1_0:Int) (a1_1:Int) (k:Int×Int×Int×Int→R):direction_calc_result.K s0_0 a1_0 a1_1 k=k (direction_calc_result.K s0_0 a1_0 a1_1 id):=by
  simp only [direction_calc_result.K,acond k,id_eq]
theorem direction_calc_result.ok:SOK Tryz.prog 71 (direction_calc_result.sp direction_calc_result):=by
  refine sok_of (E:=⟨[],[],[]⟩) (L:=[]) ⟨specs_nil,inl_nil,mixed_ok,lps_nil⟩ 40 Tryz.func71 (by decide) rfl no_loops fun vs bl v bl' h=> ?_
  unfold direction_calc_result.sp at h
  split at h
  · rename_i a1_0 a1_1 s0_0
    simp only [Option.some.injEq,Prod.mk.injEq,true_and] at h
    obtain ⟨rfl,rfl⟩:=h
    refine ⟨?_,by simp [okV,Nat.blt],clo_spec 8 _ (by kernel_rfl),told_blk (by kernel_rfl)⟩
    refine (direction_calc_result.run s0_0 a1_0 a1_1).trans ?_
    refine (direction_calc_result.nat s0_0 a1_0 a1_1 _).trans ?_
    kernel_rfl
  · cases h
def direction_Dot.K {R:Type} (f_direction_Valid:Int→Int→Int→Int→Int→Int→(Bool)) (f_direction_calc_add:Int→Int→Int→Int→Int→(Int×Int×Int)) (f_direction_calc_result:Int→Int→Int→(Int×Int×Int×Int)) (f_direction_calc_mul:Int→Int→Int→Int→Int→(Int×Int×Int)) (a0_0:Int) (a0_1:Int) (a0_2:Int) (a0_3:Int) (a0_4:Int) (a0_5:Int) (a1_0:Int) (a1_1:Int) (a1_2:Int) (a1_3:Int) (a1_4:Int) (a1_5:Int) (k:Int×Int×Int→R):R:=
 let t0:=f_direction_Valid a0_0 a0_1 a0_2 a0_3 a0_4 a0_5
 bif !t0 then k (0,0,1) else
 let t1:=f_direction_Valid a1_0 a1_1 a1_2 a1_3 a1_4 a1_5
 bif !t1 then k (0,0,1) else
 let t2:=f_direction_calc_mul 0 a0_0 a0_1 a1_0 a1_1
 let t3:=f_direction_calc_mul t2.snd.snd a0_2 a0_3 a1_2 a1_3
 let t4:=f_direction_calc_mul t3.snd.snd a0_4 a0_5 a1_4 a1_5
 let t5:=f_direction_calc_add t4.snd.snd t2.fst t2.snd.fst t3.fst t3.snd.fst
 let t6:=f_direction_calc_add t5.snd.snd t5.fst t5.snd.fst t4.fst t4.snd.fst
 let t7:=f_direction_calc_result t6.snd.snd t6.fst t6.snd.fst
 k (t7.fst,t7.snd.fst,t7.snd.snd.fst)
set_option maxRecDepth 100000 in
theorem direction_Dot.run (f_direction_Valid:Int→Int→Int→Int→Int→Int→(Bool)) (f_direction_calc_add:Int→Int→Int→Int→Int→(Int×Int×Int)) (f_direction_calc_result:Int→Int→Int→(Int×Int×Int×Int)) (f_direction_calc_mul:Int→Int→Int→Int→Int→(Int×Int×Int)) (a0_0:Int) (a0_1:Int) (a0_2:Int) (a0_3:Int) (a0_4:Int) (a0_5:Int) (a1_0:Int) (a1_1:Int) (a1_2:Int) (a1_3:Int) (a1_4:Int) (a1_5:Int):xfn Tryz.prog ⟨[(49,direction_Valid.sp f_direction_Valid),(68,direction_calc_add.sp f_direction_calc_add),(71,direction_calc_result.sp f_direction_calc_result),(75,direction_calc_mul.sp f_direction_calc_mul)],[],[]⟩ [] 40 Tryz.f30 [.agg ⟨[.int .i64 a0_0,.int .i64 a0_1,.int .i64 a0_2,.int .i64 a0_3,.int .i64 a0_4,.int .i64 a0_5]⟩,.agg ⟨[.int .i64 a1_0,.int .i64 a1_1,.int .i64 a1_2,.int .i64 a1_3,.int .i64 a1_4,.int .i64 a1_5]⟩] []=direction_Dot.K f_direction_Valid f_direction_calc_add f_direction_calc_result f_direction_calc_mul a0_0 a0_1 a0_2 a0_3 a0_4 a0_5 a1_0 a1_1 a1_2 a1_3 a1_4 a1_5 (fun r=>some (.tuple ⟨[.agg ⟨[.int .i64 r.1,.int .i64 r.2.1]⟩,.int .i64 r.2.2]⟩,[])):=by kernel_rfl
def direction_Dot (a0_0:Int) (a0_1:Int) (a0_2:Int) (a0_3:Int) (a0_4:Int) (a0_5:Int) (a1_0:Int) (a1_1:Int) (a1_2:Int) (a1_3:Int) (a1_4:Int) (a1_5:Int):Int×Int×Int:=direction_Dot.K direction_Valid direction_calc_add direction_calc_result direction_calc_mul a0_0 a0_1 a0_2 a0_3 a0_4 a0_5 a1_0 a1_1 a1_2 a1_3 a1_4 a1_5 id
theorem direction_Dot.nat {R:Type} (f_direction_Valid:Int→Int→Int→Int→Int→Int→(Bool)) (f_direction_calc_add:Int→Int→Int→Int→Int→(Int×Int×Int)) (f_direction_calc_result:Int→Int→Int→(Int×Int×Int×Int)) (f_direction_calc_mul:Int→Int→Int→Int→Int→(Int×Int×Int)) (a0_0:Int) (a0_1:Int) (a0_2:Int) (a0_3:Int) (a0_4:Int) (a0_5:Int) (a1_0:Int) (a1_1:Int) (a1_2:Int) (a1_3:Int) (a1_4:Int) (a1_5:Int) (k:Int×Int×Int→R):direction_Dot.K f_direction_Valid f_direction_calc_add f_direction_calc_result f_direction_calc_mul a0_0 a0_1 a0_2 a0_3 a0_4 a0_5 a1_0 a1_1 a1_2 a1_3 a1_4 a1_5 k=k (direction_Dot.K f_direction_Valid f_direction_calc_add f_direction_calc_result f_direction_calc_mul a0_0 a0_1 a0_2 a0_3 a0_4 a0_5 a1_0 a1_1 a1_2 a1_3 a1_4 a1_5 id):=by
  simp only [direction_Dot.K,acond k,id_eq]
theorem direction_Dot.eq (a0 a1 a2 a3 a4 a5 b0 b1 b2 b3 b4 b5:Int):direction_Dot a0 a1 a2 a3 a4 a5 b0 b1 b2 b3 b4 b5=o3 (ddot ((a0,a1),(a2,a3),(a4,a5)) ((b0,b1),(b2,b3),(b4,b5))):=by
  simp only [direction_Dot,direction_Dot.K,id_eq,direction_Valid.eq,direction_calc_mul.eq,direction_calc_add.eq,direction_calc_result,direction_calc_result.K,id_eq,ddot,mulR,addR]
  cases hV0:VB ((a0,a1),(a2,a3),(a4,a5)) with
  | false=>
    simp only [hV0,st0,kr0,st70,t3_ok,bind_ok,bind_er,o7,o3,o2,o11,V2_mk,kp0,cond_true,cond_false,Bool.not_true,Bool.not_false,Bool.false_and,Bool.and_false,Bool.true_and,Bool.and_true,bne_self_eq_false,beq_self_eq_true,if_true,if_false]
  | true=>
    cases hV1:VB ((b0,b1),(b2,b3),(b4,b5)) with
    | false=>
      simp only [hV0,hV1,st0,kr0,st70,t3_ok,bind_ok,bind_er,o7,o3,o2,o11,V2_mk,kp0,cond_true,cond_false,Bool.not_true,Bool.not_false,Bool.false_and,Bool.and_false,Bool.true_and,Bool.and_true,bne_self_eq_false,beq_self_eq_true,if_true,if_false]
    | true=>
      rcases t3c (imul a0 a1 b0 b1) with ⟨x0,x1,h0⟩|⟨x0,x1,e0,n0,h0⟩
      · simp only [hV0,hV1,h0,st0,kr0,st70,t3_ok,bind_ok,bind_er,o7,o3,o2,o11,V2_mk,kp0,cond_true,cond_false,Bool.not_true,Bool.not_false,Bool.false_and,Bool.and_false,Bool.true_and,Bool.and_true,bne_self_eq_false,beq_self_eq_true,if_true,if_false]
        rcases t3c (imul a2 a3 b2 b3) with ⟨y0,y1,h1⟩|⟨y0,y1,e1,n1,h1⟩
        · simp only [h1,st0,kr0,st70,t3_ok,bind_ok,bind_er,o7,o3,o2,o11,V2_mk,kp0,cond_true,cond_false,Bool.not_true,Bool.not_false,Bool.false_and,Bool.and_false,Bool.true_and,Bool.and_true,bne_self_eq_false,beq_self_eq_true,if_true,if_false]
          rcases t3c (imul a4 a5 b4 b5) with ⟨z0,z1,h2⟩|⟨z0,z1,e2,n2,h2⟩
          · simp only [h2,st0,kr0,st70,t3_ok,bind_ok,bind_er,o7,o3,o2,o11,V2_mk,kp0,cond_true,cond_false,Bool.not_true,Bool.not_false,Bool.false_and,Bool.and_false,Bool.true_and,Bool.and_true,bne_self_eq_false,beq_self_eq_true,if_true,if_false]
            rcases t3c (iadd x0 x1 y0 y1) with ⟨s0,s1,h3⟩|⟨s0,s1,e3,n3,h3⟩
            · simp only [h3,st0,kr0,st70,t3_ok,bind_ok,bind_er,o7,o3,o2,o11,V2_mk,kp0,cond_true,cond_false,Bool.not_true,Bool.not_false,Bool.false_and,Bool.and_false,Bool.true_and,Bool.and_true,bne_self_eq_false,beq_self_eq_true,if_true,if_false]
              rcases t3c (iadd s0 s1 z0 z1) with ⟨t0,t1,h4⟩|⟨t0,t1,e4,n4,h4⟩
              · simp only [h4,st0,kr0,st70,t3_ok,bind_ok,bind_er,o7,o3,o2,o11,V2_mk,kp0,cond_true,cond_false,Bool.not_true,Bool.not_false,Bool.false_and,Bool.and_false,Bool.true_and,Bool.and_true,bne_self_eq_false,beq_self_eq_true,if_true,if_false]
              · simp only [h4,stE n4,krE n4,st7E n4,t3_er n4,bne_of n4,beq_of n4,kpn _ n4,st0,kr0,st70,t3_ok,bind_ok,bind_er,o7,o3,o2,o11,V2_mk,kp0,cond_true,cond_false,Bool.not_true,Bool.not_false,Bool.false_and,Bool.and_false,Bool.true_and,Bool.and_true,bne_self_eq_false,beq_self_eq_true,if_true,if_false]
            · simp only [h3,stE n3,krE n3,st7E n3,t3_er n3,bne_of n3,beq_of n3,kpn _ n3,st0,kr0,st70,t3_ok,bind_ok,bind_er,o7,o3,o2,o11,V2_mk,kp0,cond_true,cond_false,Bool.not_true,Bool.not_false,Bool.false_and,Bool.and_false,Bool.true_and,Bool.and_true,bne_self_eq_false,beq_self_eq_true,if_true,if_false]
          · simp only [h2,stE n2,krE n2,st7E n2,t3_er n2,bne_of n2,beq_of n2,kpn _ n2,st0,kr0,st70,t3_ok,bind_ok,bind_er,o7,o3,o2,o11,V2_mk,kp0,cond_true,cond_false,Bool.not_true,Bool.not_false,Bool.false_and,Bool.and_false,Bool.true_and,Bool.and_true,bne_self_eq_false,beq_self_eq_true,if_true,if_false]
        · simp only [h1,stE n1,krE n1,st7E n1,t3_er n1,bne_of n1,beq_of n1,kpn _ n1,st0,kr0,st70,t3_ok,bind_ok,bind_er,o7,o3,o2,o11,V2_mk,kp0,cond_true,cond_false,Bool.not_true,Bool.not_false,Bool.false_and,Bool.and_false,Bool.true_and,Bool.and_true,bne_self_eq_false,beq_self_eq_true,if_true,if_false]
      · simp only [hV0,hV1,h0,stE n0,krE n0,st7E n0,t3_er n0,bne_of n0,beq_of n0,kpn _ n0,st0,kr0,st70,t3_ok,bind_ok,bind_er,o7,o3,o2,o11,V2_mk,kp0,cond_true,cond_false,Bool.not_true,Bool.not_false,Bool.false_and,Bool.and_false,Bool.true_and,Bool.and_true,bne_self_eq_false,beq_self_eq_true,if_true,if_false]
theorem direction_Dot.ok:SOK Tryz.prog 30 (direction_Dot.sp direction_Dot):=by
  refine sok_of (E:=⟨[(49,direction_Valid.sp direction_Valid),(68,direction_calc_add.sp direction_calc_add),(71,direction_calc_result.sp direction_calc_result),(75,direction_calc_mul.sp direction_calc_mul)],[],[]⟩) (L:=[]) ⟨(specs_cons direction_Valid.ok (specs_cons direction_calc_add.ok (specs_cons direction_calc_result.ok (specs_cons direction_calc_mul.ok specs_nil)))),inl_nil,mixed_ok,lps_nil⟩ 40 Tryz.func30 (by decide) rfl no_loops fun vs bl v bl' h=> ?_
  unfold direction_Dot.sp at h
  split at h
  · rename_i a0_0 a0_1 a0_2 a0_3 a0_4 a0_5 a1_0 a1_1 a1_2 a1_3 a1_4 a1_5
    simp only [Option.some.injEq,Prod.mk.injEq,true_and] at h
    obtain ⟨rfl,rfl⟩:=h
    refine ⟨?_,by simp [okV,Nat.blt],clo_spec 8 _ (by kernel_rfl),told_blk (by kernel_rfl)⟩
    refine (direction_Dot.run direction_Valid direction_calc_add direction_calc_result direction_calc_mul a0_0 a0_1 a0_2 a0_3 a0_4 a0_5 a1_0 a1_1 a1_2 a1_3 a1_4 a1_5).trans ?_
    refine (direction_Dot.nat direction_Valid direction_calc_add direction_calc_result direction_calc_mul a0_0 a0_1 a0_2 a0_3 a0_4 a0_5 a1_0 a1_1 a1_2 a1_3 a1_4 a1_5 _).trans ?_
    kernel_rfl
  · cases h
def interval_Inside.K {R:Type} (f_interval_Valid:Int→Int→(Bool)) (a0_0:Int) (a0_1:Int) (a1_0:Int) (a1_1:Int) (k:(Bool)→R):R:=
 let t0:=f_interval_Valid a0_0 a0_1
 bif !t0 then k (false) else
 let t1:=f_interval_Valid a1_0 a1_1
 bif !t1 then k (false) else bif decide (a0_0≥a1_0) then k (decide (a0_1≤a1_1)) else k (false)
set_option maxRecDepth 100000 in
theorem interval_Inside.run (f_interval_Valid:Int→Int→(Bool)) (a0_0:Int) (a0_1:Int) (a1_0:Int) (a1_1:Int):xfn Tryz.prog ⟨[(65,interval_Valid.sp f_interval_Valid)],[(129,Tryz.f129)],[]⟩ [] 40 Tryz.f79 [.agg ⟨[.int .i64 a0_0,.int .i64 a0_1]⟩,.agg ⟨[.int .i64 a1_0,.int .i64 a1_1]⟩] []=interval_Inside.K f_interval_Valid a0_0 a0_1 a1_0 a1_1 (fun r=>some (.bool r,[])):=by kernel_rfl
def interval_Inside (a0_0:Int) (a0_1:Int) (a1_0:Int) (a1_1:Int):Bool:=interval_Inside.K interval_Valid a0_0 a0_1 a1_0 a1_1 id
theorem interval_Inside.nat {R:Type} (f_interval_Valid:Int→Int→(Bool)) (a0_0:Int) (a0_1:Int) (a1_0:Int) (a1_1:Int) (k:(Bool)→R):interval_Inside.K f_interval_Valid a0_0 a0_1 a1_0 a1_1 k=k (interval_Inside.K f_interval_Valid a0_0 a0_1 a1_0 a1_1 id):=by
  simp only [interval_Inside.K,acond k,id_eq]
def inb (a b c d:Int):Bool:=V a b&&(V c d&&(decide (c≤a)&&decide (b≤d)))
theorem inb_of {a b c d:Int} (h1:V a b=true) (h2:V c d=true) (h3:c≤a) (h4:b≤d):inb a b c d=true:=by simp only [inb,h1,h2,h3,h4,decide_true,Bool.and_self]
theorem interval_Inside.eq (a b c d:Int):interval_Inside a b c d=inb a b c d:=by
  simp only [interval_Inside,interval_Inside.K,id_eq,interval_Valid.eq,inb]
  cases V a b<;>cases V c d<;>by_cases h1:c≤a<;>simp [h1]
theorem interval_Inside.ok:SOK Tryz.prog 79 (interval_Inside.sp interval_Inside):=by
  refine sok_of (E:=⟨[(65,interval_Valid.sp interval_Valid)],[(129,Tryz.f129)],[]⟩) (L:=[]) ⟨(specs_cons interval_Valid.ok specs_nil),(inl_cons ⟨Tryz.func129,by decide,rfl⟩ inl_nil),mixed_ok,lps_nil⟩ 40 Tryz.func79 (by decide) rfl no_loops fun vs bl v bl' h=> ?_
  unfold interval_Inside.sp at h
  split at h
  · rename_i a0_0 a0_1 a1_0 a1_1
    simp only [Option.some.injEq,Prod.mk.injEq,true_and] at h
    obtain ⟨rfl,rfl⟩:=h
    refine ⟨?_,by simp [okV,Nat.blt],clo_spec 8 _ (by kernel_rfl),told_blk (by kernel_rfl)⟩
    refine (interval_Inside.run interval_Valid a0_0 a0_1 a1_0 a1_1).trans ?_
    refine (interval_Inside.nat interval_Valid a0_0 a0_1 a1_0 a1_1 _).trans ?_
    kernel_rfl
  · cases h
def direction_Inside.K {R:Type} (f_interval_Inside:Int→Int→Int→Int→(Bool)) (a0_0:Int) (a0_1:Int) (a0_2:Int) (a0_3:Int) (a0_4:Int) (a0_5:Int) (a1_0:Int) (a1_1:Int) (a1_2:Int) (a1_3:Int) (a1_4:Int) (a1_5:Int) (k:(Bool)→R):R:=
 let t0:=f_interval_Inside a0_0 a0_1 a1_0 a1_1
 bif t0 then
 let t1:=f_interval_Inside a0_2 a0_3 a1_2 a1_3
 bif t1 then
 let t2:=f_interval_Inside a0_4 a0_5 a1_4 a1_5
 k (t2) else k (false) else k (false)
set_option maxRecDepth 100000 in
theorem direction_Inside.run (f_interval_Inside:Int→Int→Int→Int→(Bool)) (a0_0:Int) (a0_1:Int) (a0_2:Int) (a0_3:Int) (a0_4:Int) (a0_5:Int) (a1_0:Int) (a1_1:Int) (a1_2:Int) (a1_3:Int) (a1_4:Int) (a1_5:Int):xfn Tryz.prog ⟨[(79,interval_Inside.sp f_interval_Inside)],[],[]⟩ [] 40 Tryz.f32 [.agg ⟨[.int .i64 a0_0,.int .i64 a0_1,.int .i64 a0_2,.int .i64 a0_3,.int .i64 a0_4,.int .i64 a0_5]⟩,.agg ⟨[.int .i64 a1_0,.int .i64 a1_1,.int .i64 a1_2,.int .i64 a1_3,.int .i64 a1_4,.int .i64 a1_5]⟩] []=direction_Inside.K f_interval_Inside a0_0 a0_1 a0_2 a0_3 a0_4 a0_5 a1_0 a1_1 a1_2 a1_3 a1_4 a1_5 (fun r=>some (.bool r,[])):=by kernel_rfl
def direction_Inside (a0_0:Int) (a0_1:Int) (a0_2:Int) (a0_3:Int) (a0_4:Int) (a0_5:Int) (a1_0:Int) (a1_1:Int) (a1_2:Int) (a1_3:Int) (a1_4:Int) (a1_5:Int):Bool:=direction_Inside.K interval_Inside a0_0 a0_1 a0_2 a0_3 a0_4 a0_5 a1_0 a1_1 a1_2 a1_3 a1_4 a1_5 id
theorem direction_Inside.nat {R:Type} (f_interval_Inside:Int→Int→Int→Int→(Bool)) (a0_0:Int) (a0_1:Int) (a0_2:Int) (a0_3:Int) (a0_4:Int) (a0_5:Int) (a1_0:Int) (a1_1:Int) (a1_2:Int) (a1_3:Int) (a1_4:Int) (a1_5:Int) (k:(Bool)→R):direction_Inside.K f_interval_Inside a0_0 a0_1 a0_2 a0_3 a0_4 a0_5 a1_0 a1_1 a1_2 a1_3 a1_4 a1_5 k=k (direction_Inside.K f_interval_Inside a0_0 a0_1 a0_2 a0_3 a0_4 a0_5 a1_0 a1_1 a1_2 a1_3 a1_4 a1_5 id):=by
  simp only [direction_Inside.K,acond k,id_eq]
theorem direction_Inside.of {a0 a1 a2 a3 a4 a5 b0 b1 b2 b3 b4 b5:Int} (h0:inb a0 a1 b0 b1=true) (h1:inb a2 a3 b2 b3=true) (h2:inb a4 a5 b4 b5=true):direction_Inside a0 a1 a2 a3 a4 a5 b0 b1 b2 b3 b4 b5=true:=by
  simp only [direction_Inside,direction_Inside.K,id_eq,interval_Inside.eq,h0,h1,h2,cond_true]
theorem direction_Inside.ok:SOK Tryz.prog 32 (direction_Inside.sp direction_Inside):=by
  refine sok_of (E:=⟨[(79,interval_Inside.sp interval_Inside)],[],[]⟩) (L:=[]) ⟨(specs_cons interval_Inside.ok specs_nil),inl_nil,mixed_ok,lps_nil⟩ 40 Tryz.func32 (by decide) rfl no_loops fun vs bl v bl' h=> ?_
  unfold direction_Inside.sp at h
  split at h
  · rename_i a0_0 a0_1 a0_2 a0_3 a0_4 a0_5 a1_0 a1_1 a1_2 a1_3 a1_4 a1_5
    simp only [Option.some.injEq,Prod.mk.injEq,true_and] at h
    obtain ⟨rfl,rfl⟩:=h
    refine ⟨?_,by simp [okV,Nat.blt],clo_spec 8 _ (by kernel_rfl),told_blk (by kernel_rfl)⟩
    refine (direction_Inside.run interval_Inside a0_0 a0_1 a0_2 a0_3 a0_4 a0_5 a1_0 a1_1 a1_2 a1_3 a1_4 a1_5).trans ?_
    refine (direction_Inside.nat interval_Inside a0_0 a0_1 a0_2 a0_3 a0_4 a0_5 a1_0 a1_1 a1_2 a1_3 a1_4 a1_5 _).trans ?_
    kernel_rfl
  · cases h
def culetref27_Inside.K {R:Type} (f_culetref27_both:Int→Int→Int→Int→(Bool)) (a0_0:Int) (a0_1:Int) (a1_0:Int) (a1_1:Int) (k:(Bool)→R):R:=
 let t0:=f_culetref27_both a0_0 a0_1 a1_0 a1_1
 bif t0 then bif decide (a1_0≤a0_0) then k (decide (a0_1≤a1_1)) else k (false) else k (false)
set_option maxRecDepth 100000 in
theorem culetref27_Inside.run (f_culetref27_both:Int→Int→Int→Int→(Bool)) (a0_0:Int) (a0_1:Int) (a1_0:Int) (a1_1:Int):xfn Tryz.prog ⟨[(82,culetref27_both.sp f_culetref27_both)],[],[]⟩ [] 40 Tryz.f37 [.agg ⟨[.int .i64 a0_0,.int .i64 a0_1]⟩,.agg ⟨[.int .i64 a1_0,.int .i64 a1_1]⟩] []=culetref27_Inside.K f_culetref27_both a0_0 a0_1 a1_0 a1_1 (fun r=>some (.bool r,[])):=by kernel_rfl
def culetref27_Inside (a0_0:Int) (a0_1:Int) (a1_0:Int) (a1_1:Int):Bool:=culetref27_Inside.K culetref27_both a0_0 a0_1 a1_0 a1_1 id
theorem culetref27_Inside.nat {R:Type} (f_culetref27_both:Int→Int→Int→Int→(Bool)) (a0_0:Int) (a0_1:Int) (a1_0:Int) (a1_1:Int) (k:(Bool)→R):culetref27_Inside.K f_culetref27_both a0_0 a0_1 a1_0 a1_1 k=k (culetref27_Inside.K f_culetref27_both a0_0 a0_1 a1_0 a1_1 id):=by
  simp only [culetref27_Inside.K,acond k,id_eq]
theorem culetref27_Inside.of {a b c d:Int} (h:inb a b c d=true):culetref27_Inside a b c d=true:=by
  simp only [inb,Bool.and_eq_true,decide_eq_true_eq] at h
  simp only [culetref27_Inside,culetref27_Inside.K,id_eq,culetref27_both.eq,h,Bool.and_self,cond_true,decide_true]
theorem S2.inb {x y X Y:Int} (h:S2 (x,y) (X,Y)):inb x y X Y=true:=by
  have:=h.1
  unfold In at this
  exact inb_of h.v h.2 this.1 this.2.2
theorem culetref27_Inside.ok:SOK Tryz.prog 37 (culetref27_Inside.sp culetref27_Inside):=by
  refine sok_of (E:=⟨[(82,culetref27_both.sp culetref27_both)],[],[]⟩) (L:=[]) ⟨(specs_cons culetref27_both.ok specs_nil),inl_nil,mixed_ok,lps_nil⟩ 40 Tryz.func37 (by decide) rfl no_loops fun vs bl v bl' h=> ?_
  unfold culetref27_Inside.sp at h
  split at h
  · rename_i a0_0 a0_1 a1_0 a1_1
    simp only [Option.some.injEq,Prod.mk.injEq,true_and] at h
    obtain ⟨rfl,rfl⟩:=h
    refine ⟨?_,by simp [okV,Nat.blt],clo_spec 8 _ (by kernel_rfl),told_blk (by kernel_rfl)⟩
    refine (culetref27_Inside.run culetref27_both a0_0 a0_1 a1_0 a1_1).trans ?_
    refine (culetref27_Inside.nat culetref27_both a0_0 a0_1 a1_0 a1_1 _).trans ?_
    kernel_rfl
  · cases h
theorem direction_Inside.eq (a0 a1 a2 a3 a4 a5 b0 b1 b2 b3 b4 b5:Int):direction_Inside a0 a1 a2 a3 a4 a5 b0 b1 b2 b3 b4 b5=(inb a0 a1 b0 b1&&(inb a2 a3 b2 b3&&inb a4 a5 b4 b5)):=by
  simp only [direction_Inside,direction_Inside.K,id_eq,interval_Inside.eq]
  cases inb a0 a1 b0 b1<;>cases inb a2 a3 b2 b3<;>rfl
theorem theirs_eq (a0 a1 a2 a3 a4 a5:Int):culetlaw28_theirs a0 a1 a2 a3 a4 a5=(a0,a1,a2,a3,a4,a5):=rfl
def interval_Square.K {R:Type} (f_interval_Valid:Int→Int→(Bool)) (f_interval_made:Int→Int→(Int×Int×Int)) (f_interval_floor:Int→Int→(Int)) (f_interval_ceil:Int→Int→(Int)) (a0_0:Int) (a0_1:Int) (k:Int×Int×Int→R):R:=
 let t0:=f_interval_Valid a0_0 a0_1
 bif !t0 then k (0,0,1) else bif decide (a0_0≤0) then bif decide (a0_1≥0) then
 let t1:=f_interval_floor 0 16777216
 let t2:=f_interval_ceil (mx (mx (IntKind.i64.wrap (a0_0*a0_0)) (IntKind.i64.wrap (a0_0*a0_0))) (IntKind.i64.wrap (a0_1*a0_1))) 16777216
 let t3:=f_interval_made t1 t2
 k (t3.fst,t3.snd.fst,t3.snd.snd) else
 let t4:=f_interval_floor (mn (mn (IntKind.i64.wrap (a0_0*a0_0)) (IntKind.i64.wrap (a0_0*a0_0))) (IntKind.i64.wrap (a0_1*a0_1))) 16777216
 let t5:=f_interval_ceil (mx (mx (IntKind.i64.wrap (a0_0*a0_0)) (IntKind.i64.wrap (a0_0*a0_0))) (IntKind.i64.wrap (a0_1*a0_1))) 16777216
 let t6:=f_interval_made t4 t5
 k (t6.fst,t6.snd.fst,t6.snd.snd) else
 let t7:=f_interval_floor (mn (mn (IntKind.i64.wrap (a0_0*a0_0)) (IntKind.i64.wrap (a0_0*a0_0))) (IntKind.i64.wrap (a0_1*a0_1))) 16777216
 let t8:=f_interval_ceil (mx (mx (IntKind.i64.wrap (a0_0*a0_0)) (IntKind.i64.wrap (a0_0*a0_0))) (IntKind.i64.wrap (a0_1*a0_1))) 16777216
 let t9:=f_interval_made t7 t8
 k (t9.fst,t9.snd.fst,t9.snd.snd)
set_option maxRecDepth 100000 in
theorem interval_Square.run (f_interval_Valid:Int→Int→(Bool)) (f_interval_made:Int→Int→(Int×Int×Int)) (f_interval_floor:Int→Int→(Int)) (f_interval_ceil:Int→Int→(Int)) (a0_0:Int) (a0_1:Int):xfn Tryz.prog ⟨[(65,interval_Valid.sp f_interval_Valid),(117,interval_extremes.sp),(118,interval_made.sp f_interval_made),(119,interval_floor.sp f_interval_floor),(120,interval_ceil.sp f_interval_ceil)],[],[]⟩ [] 40 Tryz.f67 [.agg ⟨[.int .i64 a0_0,.int .i64 a0_1]⟩] []=interval_Square.K f_interval_Valid f_interval_made f_interval_floor f_interval_ceil a0_0 a0_1 (fun r=>some (.tuple ⟨[.agg ⟨[.int .i64 r.1,.int .i64 r.2.1]⟩,.int .i64 r.2.2]⟩,[])):=by kernel_rfl
def interval_Square (a0_0:Int) (a0_1:Int):Int×Int×Int:=interval_Square.K interval_Valid interval_made interval_floor interval_ceil a0_0 a0_1 id
theorem interval_Square.nat {R:Type} (f_interval_Valid:Int→Int→(Bool)) (f_interval_made:Int→Int→(Int×Int×Int)) (f_interval_floor:Int→Int→(Int)) (f_interval_ceil:Int→Int→(Int)) (a0_0:Int) (a0_1:Int) (k:Int×Int×Int→R):interval_Square.K f_interval_Valid f_interval_made f_interval_floor f_interval_ceil a0_0 a0_1 k=k (interval_Square.K f_interval_Valid f_interval_made f_interval_floor f_interval_ceil a0_0 a0_1 id):=by
  simp only [interval_Square.K,acond k,id_eq]
theorem interval_Square.eq (a b:Int):interval_Square a b=isq a b:=by
  simp only [interval_Square,interval_Square.K,id_eq,interval_Valid.eq,isq]
  cases h1:V a b with
  |false=>simp
  | true=>
    have:=V_iff.1 h1
    have e1:=mul_bnd30 (x:=a) (y:=a) (by omega) (by omega) (by omega) (by omega)
    have e4:=mul_bnd30 (x:=b) (y:=b) (by omega) (by omega) (by omega) (by omega)
    have s1:=sq_nonneg a
    have s2:=sq_nonneg b
    have w1:IntKind.i64.wrap (a*a)=a*a:=w64 (by omega) (by omega)
    have w4:IntKind.i64.wrap (b*b)=b*b:=w64 (by omega) (by omega)
    have m1:min (min (a*a) (a*a)) (b*b)=min (a*a) (b*b):=by omega
    have m2:max (max (a*a) (a*a)) (b*b)=max (a*a) (b*b):=by omega
    simp only [w1,w4,mn_eq,mx_eq,Bool.not_true,cond_false,cond_true,m1,m2]
    have r1:interval_floor (min (a*a) (b*b)) 16777216=min (a*a) (b*b)/16777216:=interval_floor.eq (by omega) (by omega) (by omega)
    have r2:interval_ceil (max (a*a) (b*b)) 16777216=cl (max (a*a) (b*b)) 16777216:=interval_ceil.eq (by omega) (by omega) (by omega)
    have r3:interval_floor 0 16777216=0/16777216:=interval_floor.eq (by omega) (by omega) (by omega)
    have hk:(0:Int)<16777216:=by omega
    rw [r1,r2,r3,interval_made.eq (fl_le_cl' hk (by omega)),interval_made.eq (fl_le_cl' hk (by omega))]
    by_cases h2:a≤0<;>by_cases h3:b≥0<;>simp [h2,h3]
theorem interval_Square.ok:SOK Tryz.prog 67 (interval_Square.sp interval_Square):=by
  refine sok_of (E:=⟨[(65,interval_Valid.sp interval_Valid),(117,interval_extremes.sp),(118,interval_made.sp interval_made),(119,interval_floor.sp interval_floor),(120,interval_ceil.sp interval_ceil)],[],[]⟩) (L:=[]) ⟨(specs_cons interval_Valid.ok (specs_cons interval_extremes.ok (specs_cons interval_made.ok (specs_cons interval_floor.ok (specs_cons interval_ceil.ok specs_nil))))),inl_nil,mixed_ok,lps_nil⟩ 40 Tryz.func67 (by decide) rfl no_loops fun vs bl v bl' h=> ?_
  unfold interval_Square.sp at h
  split at h
  · rename_i a0_0 a0_1
    simp only [Option.some.injEq,Prod.mk.injEq,true_and] at h
    obtain ⟨rfl,rfl⟩:=h
    refine ⟨?_,by simp [okV,Nat.blt],clo_spec 8 _ (by kernel_rfl),told_blk (by kernel_rfl)⟩
    refine (interval_Square.run interval_Valid interval_made interval_floor interval_ceil a0_0 a0_1).trans ?_
    refine (interval_Square.nat interval_Valid interval_made interval_floor interval_ceil a0_0 a0_1 _).trans ?_
    kernel_rfl
  · cases h
def interval_Sqrt.K {R:Type} (f_interval_Valid:Int→Int→(Bool)) (f_interval_made:Int→Int→(Int×Int×Int)) (a0_0:Int) (a0_1:Int) (k:Int×Int×Int→R):R:=
 let t0:=f_interval_Valid a0_0 a0_1
 bif !t0 then k (0,0,1) else bif decide (a0_0<0) then k (0,0,2) else bif decide (IntKind.i64.wrap (root.rt 32 (IntKind.i64.wrap (a0_1*16777216)) 0*root.rt 32 (IntKind.i64.wrap (a0_1*16777216)) 0)<IntKind.i64.wrap (a0_1*16777216)) then
 let t1:=f_interval_made (root.rt 32 (IntKind.i64.wrap (a0_0*16777216)) 0) (IntKind.i64.wrap (root.rt 32 (IntKind.i64.wrap (a0_1*16777216)) 0+1))
 k (t1.fst,t1.snd.fst,t1.snd.snd) else
 let t2:=f_interval_made (root.rt 32 (IntKind.i64.wrap (a0_0*16777216)) 0) (root.rt 32 (IntKind.i64.wrap (a0_1*16777216)) 0)
 k (t2.fst,t2.snd.fst,t2.snd.snd)
set_option maxRecDepth 100000 in
theorem interval_Sqrt.run (f_interval_Valid:Int→Int→(Bool)) (f_interval_made:Int→Int→(Int×Int×Int)) (a0_0:Int) (a0_1:Int):xfn Tryz.prog ⟨[(65,interval_Valid.sp f_interval_Valid),(118,interval_made.sp f_interval_made),(130,interval_root.sp)],[],[]⟩ [] 40 Tryz.f81 [.agg ⟨[.int .i64 a0_0,.int .i64 a0_1]⟩] []=interval_Sqrt.K f_interval_Valid f_interval_made a0_0 a0_1 (fun r=>some (.tuple ⟨[.agg ⟨[.int .i64 r.1,.int .i64 r.2.1]⟩,.int .i64 r.2.2]⟩,[])):=by kernel_rfl
def interval_Sqrt (a0_0:Int) (a0_1:Int):Int×Int×Int:=interval_Sqrt.K interval_Valid interval_made a0_0 a0_1 id
theorem interval_Sqrt.nat {R:Type} (f_interval_Valid:Int→Int→(Bool)) (f_interval_made:Int→Int→(Int×Int×Int)) (a0_0:Int) (a0_1:Int) (k:Int×Int×Int→R):interval_Sqrt.K f_interval_Valid f_interval_made a0_0 a0_1 k=k (interval_Sqrt.K f_interval_Valid f_interval_made a0_0 a0_1 id):=by
  simp only [interval_Sqrt.K,acond k,id_eq]
theorem root_rts:∀(k:Nat) (n r:Int),0≤n→n≤18014398509481984→0≤r→r+((2^k:Nat):Int)≤4294967296→root.rt k n r=rts k n r
  |0,n,r,_,_,_,_=>rfl
  | k +1,n,r,h0,h1,h2,h3=>by
    have e:((2^(k+1):Nat):Int)=((2^k:Nat):Int)+((2^k:Nat):Int):=by rw [Nat.pow_succ]; omega
    have e2:(2:Int)^k=((2^k:Nat):Int):=(Int.natCast_pow 2 k).symm
    have hp:0<((2^k:Nat):Int):=by have:=Nat.two_pow_pos k; omega
    rw [e] at h3
    have hq:=tdiv_bnd (a:=n) (b:=r+((2^k:Nat):Int)) (by omega) (by omega) (by omega)
    simp only [root.rt,rts,bitOf_succ,e2]
    rw [w64 (n:=r+((2^k:Nat):Int)) (by omega) (by omega),Int.tdiv_eq_ediv_of_nonneg h0,w64 (by omega) (by omega)]
    have hi:r+((2^k:Nat):Int)≤n/(r+((2^k:Nat):Int))↔(r+((2^k:Nat):Int))*(r+((2^k:Nat):Int))≤n:=le_fl (by omega)
    by_cases hc:(r+((2^k:Nat):Int))*(r+((2^k:Nat):Int))≤n
    · rw [if_pos hc,if_pos (hi.2 hc)]
      exact root_rts k n _ h0 h1 (by omega) (by omega)
    · rw [if_neg hc,if_neg (fun h=>hc (hi.1 h))]
      exact root_rts k n _ h0 h1 h2 (by omega)
theorem root_sqt {n:Int} (h0:0≤n) (h:n≤18014398509481984):root.rt 32 n 0=sqt n:=root_rts 32 n 0 h0 h (by omega) (by decide)
theorem interval_Sqrt.eq (a b:Int):interval_Sqrt a b=isr a b:=by
  simp only [interval_Sqrt,interval_Sqrt.K,id_eq,interval_Valid.eq,isr]
  cases hv:V a b with
  |false=>rfl
  | true=>
    have:=V_iff.1 hv
    by_cases ha:a<0
    · simp only [ha,decide_true,Bool.not_true,cond_false,cond_true,if_true]
    · have w1:IntKind.i64.wrap (a*16777216)=a*16777216:=w64 (by omega) (by omega)
      have w2:IntKind.i64.wrap (b*16777216)=b*16777216:=w64 (by omega) (by omega)
      have r1:=root_sqt (n:=a*16777216) (by omega) (by omega)
      have r2:=root_sqt (n:=b*16777216) (by omega) (by omega)
      have s2:=sqt_spec (n:=b*16777216) (by omega) (by omega)
      have g:=isr_range (a:=a) (b:=b) (by omega) (by omega) (by omega)
      have g2:=(sqc_spec (n:=b*16777216) (by omega) (by omega)).2.2.2
      simp only [ha,decide_false,Bool.not_true,cond_false,cond_true,if_false,w1,w2,r1,r2]
      have g3:=sq_nonneg (sqt (b*16777216))
      rw [w64 (n:=sqt (b*16777216)*sqt (b*16777216)) (by omega) (by omega)]
      by_cases hc:sqt (b*16777216)*sqt (b*16777216)<b*16777216
      · have e:sqc (b*16777216)=sqt (b*16777216)+1:=by rw [sqc,if_pos hc]
        simp only [hc,decide_true,cond_true]
        rw [w64 (by omega) (by omega),←e,interval_made.eq (by omega),chk_of (by omega) (by omega) (by omega)]
      · have e:sqc (b*16777216)=sqt (b*16777216):=by rw [sqc,if_neg hc]
        simp only [hc,decide_false,cond_false]
        rw [←e,interval_made.eq (by omega),chk_of (by omega) (by omega) (by omega)]
theorem interval_Sqrt.ok:SOK Tryz.prog 81 (interval_Sqrt.sp interval_Sqrt):=by
  refine sok_of (E:=⟨[(65,interval_Valid.sp interval_Valid),(118,interval_made.sp interval_made),(130,interval_root.sp)],[],[]⟩) (L:=[]) ⟨(specs_cons interval_Valid.ok (specs_cons interval_made.ok (specs_cons interval_root.ok specs_nil))),inl_nil,mixed_ok,lps_nil⟩ 40 Tryz.func81 (by decide) rfl no_loops fun vs bl v bl' h=> ?_
  unfold interval_Sqrt.sp at h
  split at h
  · rename_i a0_0 a0_1
    simp only [Option.some.injEq,Prod.mk.injEq,true_and] at h
    obtain ⟨rfl,rfl⟩:=h
    refine ⟨?_,by simp [okV,Nat.blt],clo_spec 8 _ (by kernel_rfl),told_blk (by kernel_rfl)⟩
    refine (interval_Sqrt.run interval_Valid interval_made a0_0 a0_1).trans ?_
    refine (interval_Sqrt.nat interval_Valid interval_made a0_0 a0_1 _).trans ?_
    kernel_rfl
  · cases h
def direction_calc_one_interval_Square.K {R:Type} (f_direction_calc_keep:Int→Int→Int→Int→(Int×Int×Int)) (f_interval_Square:Int→Int→(Int×Int×Int)) (f_interval_Sqrt:Int→Int→(Int×Int×Int)) (s0_0:Int) (a2_0:Int) (a2_1:Int) (k:Int×Int×Int→R):R:=
 bif s0_0 !=0 then k (a2_0,a2_1,s0_0) else
 let t0:=f_interval_Square a2_0 a2_1
 let t1:=f_direction_calc_keep s0_0 t0.fst t0.snd.fst t0.snd.snd
 k (t1.fst,t1.snd.fst,t1.snd.snd)
set_option maxRecDepth 100000 in
theorem direction_calc_one_interval_Square.run (f_direction_calc_keep:Int→Int→Int→Int→(Int×Int×Int)) (f_interval_Square:Int→Int→(Int×Int×Int)) (f_interval_Sqrt:Int→Int→(Int×Int×Int)) (s0_0:Int) (a2_0:Int) (a2_1:Int):xfn Tryz.prog ⟨[(62,direction_calc_keep.sp f_direction_calc_keep),(67,interval_Square.sp f_interval_Square),(81,interval_Sqrt.sp f_interval_Sqrt)],[],[]⟩ [] 40 Tryz.f66 [.pointer (some ⟨0,0,none⟩),.func (.func 67) ⟨[]⟩ ⟨[]⟩,.agg ⟨[.int .i64 a2_0,.int .i64 a2_1]⟩] [.cs [.int .i64 s0_0] 98]=direction_calc_one_interval_Square.K f_direction_calc_keep f_interval_Square f_interval_Sqrt s0_0 a2_0 a2_1 (fun r=>some (.agg ⟨[.int .i64 r.1,.int .i64 r.2.1]⟩,[.cs [.int .i64 r.2.2] 98])):=by kernel_rfl
def direction_calc_one_interval_Square (s0_0:Int) (a2_0:Int) (a2_1:Int):Int×Int×Int:=direction_calc_one_interval_Square.K direction_calc_keep interval_Square interval_Sqrt s0_0 a2_0 a2_1 id
theorem direction_calc_one_interval_Square.nat {R:Type} (f_direction_calc_keep:Int→Int→Int→Int→(Int×Int×Int)) (f_interval_Square:Int→Int→(Int×Int×Int)) (f_interval_Sqrt:Int→Int→(Int×Int×Int)) (s0_0:Int) (a2_0:Int) (a2_1:Int) (k:Int×Int×Int→R):direction_calc_one_interval_Square.K f_direction_calc_keep f_interval_Square f_interval_Sqrt s0_0 a2_0 a2_1 k=k (direction_calc_one_interval_Square.K f_direction_calc_keep f_interval_Square f_interval_Sqrt s0_0 a2_0 a2_1 id):=by
  simp only [direction_calc_one_interval_Square.K,acond k,id_eq]
theorem direction_calc_one_interval_Square.eq (s a b:Int):direction_calc_one_interval_Square s a b=st s a b (isq a b):=by
  simp only [direction_calc_one_interval_Square,direction_calc_one_interval_Square.K,id_eq,interval_Square.eq,direction_calc_keep.eq,st]
  by_cases hs:s=0
  · subst hs; rfl
  · simp only [bne_of hs,cond_true]
def direction_calc_one_interval_Sqrt.K {R:Type} (f_direction_calc_keep:Int→Int→Int→Int→(Int×Int×Int)) (f_interval_Square:Int→Int→(Int×Int×Int)) (f_interval_Sqrt:Int→Int→(Int×Int×Int)) (s0_0:Int) (a2_0:Int) (a2_1:Int) (k:Int×Int×Int→R):R:=
 bif s0_0 !=0 then k (a2_0,a2_1,s0_0) else
 let t0:=f_interval_Sqrt a2_0 a2_1
 let t1:=f_direction_calc_keep s0_0 t0.fst t0.snd.fst t0.snd.snd
 k (t1.fst,t1.snd.fst,t1.snd.snd)
set_option maxRecDepth 100000 in
theorem direction_calc_one_interval_Sqrt.run (f_direction_calc_keep:Int→Int→Int→Int→(Int×Int×Int)) (f_interval_Square:Int→Int→(Int×Int×Int)) (f_interval_Sqrt:Int→Int→(Int×Int×Int)) (s0_0:Int) (a2_0:Int) (a2_1:Int):xfn Tryz.prog ⟨[(62,direction_calc_keep.sp f_direction_calc_keep),(67,interval_Square.sp f_interval_Square),(81,interval_Sqrt.sp f_interval_Sqrt)],[],[]⟩ [] 40 Tryz.f66 [.pointer (some ⟨0,0,none⟩),.func (.func 81) ⟨[]⟩ ⟨[]⟩,.agg ⟨[.int .i64 a2_0,.int .i64 a2_1]⟩] [.cs [.int .i64 s0_0] 98]=direction_calc_one_interval_Sqrt.K f_direction_calc_keep f_interval_Square f_interval_Sqrt s0_0 a2_0 a2_1 (fun r=>some (.agg ⟨[.int .i64 r.1,.int .i64 r.2.1]⟩,[.cs [.int .i64 r.2.2] 98])):=by kernel_rfl
def direction_calc_one_interval_Sqrt (s0_0:Int) (a2_0:Int) (a2_1:Int):Int×Int×Int:=direction_calc_one_interval_Sqrt.K direction_calc_keep interval_Square interval_Sqrt s0_0 a2_0 a2_1 id
theorem direction_calc_one_interval_Sqrt.nat {R:Type} (f_direction_calc_keep:Int→Int→Int→Int→(Int×Int×Int)) (f_interval_Square:Int→Int→(Int×Int×Int)) (f_interval_Sqrt:Int→Int→(Int×Int×Int)) (s0_0:Int) (a2_0:Int) (a2_1:Int) (k:Int×Int×Int→R):direction_calc_one_interval_Sqrt.K f_direction_calc_keep f_interval_Square f_interval_Sqrt s0_0 a2_0 a2_1 k=k (direction_calc_one_interval_Sqrt.K f_direction_calc_keep f_interval_Square f_interval_Sqrt s0_0 a2_0 a2_1 id):=by
  simp only [direction_calc_one_interval_Sqrt.K,acond k,id_eq]
theorem direction_calc_one_interval_Sqrt.eq (s a b:Int):direction_calc_one_interval_Sqrt s a b=st s a b (isr a b):=by
  simp only [direction_calc_one_interval_Sqrt,direction_calc_one_interval_Sqrt.K,id_eq,interval_Sqrt.eq,direction_calc_keep.eq,st]
  by_cases hs:s=0
  · subst hs; rfl
  · simp only [bne_of hs,cond_true]
theorem direction_calc_one.ok:SOK Tryz.prog 66 (direction_calc_one.sp direction_calc_one_interval_Square direction_calc_one_interval_Sqrt):=by
  refine sok_of (E:=⟨[(62,direction_calc_keep.sp direction_calc_keep),(67,interval_Square.sp interval_Square),(81,interval_Sqrt.sp interval_Sqrt)],[],[]⟩) (L:=[]) ⟨(specs_cons direction_calc_keep.ok (specs_cons interval_Square.ok (specs_cons interval_Sqrt.ok specs_nil))),inl_nil,mixed_ok,lps_nil⟩ 40 Tryz.func66 (by decide) rfl no_loops fun vs bl v bl' h=> ?_
  unfold direction_calc_one.sp at h
  split at h
  · rename_i a2_0 a2_1 s0_0
    simp only [Option.some.injEq,Prod.mk.injEq,true_and] at h
    obtain ⟨rfl,rfl⟩:=h
    refine ⟨?_,by simp [okV,Nat.blt],clo_spec 8 _ (by kernel_rfl),told_blk (by kernel_rfl)⟩
    refine (direction_calc_one_interval_Square.run direction_calc_keep interval_Square interval_Sqrt s0_0 a2_0 a2_1).trans ?_
    refine (direction_calc_one_interval_Square.nat direction_calc_keep interval_Square interval_Sqrt s0_0 a2_0 a2_1 _).trans ?_
    kernel_rfl
  · rename_i a2_0 a2_1 s0_0
    simp only [Option.some.injEq,Prod.mk.injEq,true_and] at h
    obtain ⟨rfl,rfl⟩:=h
    refine ⟨?_,by simp [okV,Nat.blt],clo_spec 8 _ (by kernel_rfl),told_blk (by kernel_rfl)⟩
    refine (direction_calc_one_interval_Sqrt.run direction_calc_keep interval_Square interval_Sqrt s0_0 a2_0 a2_1).trans ?_
    refine (direction_calc_one_interval_Sqrt.nat direction_calc_keep interval_Square interval_Sqrt s0_0 a2_0 a2_1 _).trans ?_
    kernel_rfl
  · cases h
def direction_calc_div.K {R:Type} (f_direction_calc_two_interval_Add:Int→Int→Int→Int→Int→(Int×Int×Int)) (f_direction_calc_two_interval_Sub:Int→Int→Int→Int→Int→(Int×Int×Int)) (f_direction_calc_two_interval_Mul:Int→Int→Int→Int→Int→(Int×Int×Int)) (f_direction_calc_two_interval_Div:Int→Int→Int→Int→Int→(Int×Int×Int)) (f_interval_Div:Int→Int→Int→Int→(Int×Int×Int)) (s0_0:Int) (a1_0:Int) (a1_1:Int) (a2_0:Int) (a2_1:Int) (k:Int×Int×Int→R):R:=
 let t0:=f_direction_calc_two_interval_Div s0_0 a1_0 a1_1 a2_0 a2_1
 k (t0.fst,t0.snd.fst,t0.snd.snd)
set_option maxRecDepth 100000 in
theorem direction_calc_div.run (f_direction_calc_two_interval_Add:Int→Int→Int→Int→Int→(Int×Int×Int)) (f_direction_calc_two_interval_Sub:Int→Int→Int→Int→Int→(Int×Int×Int)) (f_direction_calc_two_interval_Mul:Int→Int→Int→Int→Int→(Int×Int×Int)) (f_direction_calc_two_interval_Div:Int→Int→Int→Int→Int→(Int×Int×Int)) (f_interval_Div:Int→Int→Int→Int→(Int×Int×Int)) (s0_0:Int) (a1_0:Int) (a1_1:Int) (a2_0:Int) (a2_1:Int):xfn Tryz.prog ⟨[(121,direction_calc_two.sp f_direction_calc_two_interval_Add f_direction_calc_two_interval_Sub f_direction_calc_two_interval_Mul f_direction_calc_two_interval_Div),(123,interval_Div.sp f_interval_Div)],[],[]⟩ [] 40 Tryz.f69 [.pointer (some ⟨0,0,none⟩),.agg ⟨[.int .i64 a1_0,.int .i64 a1_1]⟩,.agg ⟨[.int .i64 a2_0,.int .i64 a2_1]⟩] [.cs [.int .i64 s0_0] 98]=direction_calc_div.K f_direction_calc_two_interval_Add f_direction_calc_two_interval_Sub f_direction_calc_two_interval_Mul f_direction_calc_two_interval_Div f_interval_Div s0_0 a1_0 a1_1 a2_0 a2_1 (fun r=>some (.agg ⟨[.int .i64 r.1,.int .i64 r.2.1]⟩,[.cs [.int .i64 r.2.2] 98])):=by kernel_rfl
def direction_calc_div (s0_0:Int) (a1_0:Int) (a1_1:Int) (a2_0:Int) (a2_1:Int):Int×Int×Int:=direction_calc_div.K direction_calc_two_interval_Add direction_calc_two_interval_Sub direction_calc_two_interval_Mul direction_calc_two_interval_Div interval_Div s0_0 a1_0 a1_1 a2_0 a2_1 id
theorem direction_calc_div.nat {R:Type} (f_direction_calc_two_interval_Add:Int→Int→Int→Int→Int→(Int×Int×Int)) (f_direction_calc_two_interval_Sub:Int→Int→Int→Int→Int→(Int×Int×Int)) (f_direction_calc_two_interval_Mul:Int→Int→Int→Int→Int→(Int×Int×Int)) (f_direction_calc_two_interval_Div:Int→Int→Int→Int→Int→(Int×Int×Int)) (f_interval_Div:Int→Int→Int→Int→(Int×Int×Int)) (s0_0:Int) (a1_0:Int) (a1_1:Int) (a2_0:Int) (a2_1:Int) (k:Int×Int×Int→R):direction_calc_div.K f_direction_calc_two_interval_Add f_direction_calc_two_interval_Sub f_direction_calc_two_interval_Mul f_direction_calc_two_interval_Div f_interval_Div s0_0 a1_0 a1_1 a2_0 a2_1 k=k (direction_calc_div.K f_direction_calc_two_interval_Add f_direction_calc_two_interval_Sub f_direction_calc_two_interval_Mul f_direction_calc_two_interval_Div f_interval_Div s0_0 a1_0 a1_1 a2_0 a2_1 id):=by
  simp only [direction_calc_div.K,acond k,id_eq]
theorem direction_calc_div.eq (s a b c d:Int):direction_calc_div s a b c d=st s a b (idiv a b c d):=by
  simp only [direction_calc_div,direction_calc_div.K,id_eq,direction_calc_two_interval_Div.eq]
theorem direction_calc_div.ok:SOK Tryz.prog 69 (direction_calc_div.sp direction_calc_div):=by
  refine sok_of (E:=⟨[(121,direction_calc_two.sp direction_calc_two_interval_Add direction_calc_two_interval_Sub direction_calc_two_interval_Mul direction_calc_two_interval_Div),(123,interval_Div.sp interval_Div)],[],[]⟩) (L:=[]) ⟨(specs_cons direction_calc_two.ok (specs_cons interval_Div.ok specs_nil)),inl_nil,mixed_ok,lps_nil⟩ 40 Tryz.func69 (by decide) rfl no_loops fun vs bl v bl' h=> ?_
  unfold direction_calc_div.sp at h
  split at h
  · rename_i a1_0 a1_1 a2_0 a2_1 s0_0
    simp only [Option.some.injEq,Prod.mk.injEq,true_and] at h
    obtain ⟨rfl,rfl⟩:=h
    refine ⟨?_,by simp [okV,Nat.blt],clo_spec 8 _ (by kernel_rfl),told_blk (by kernel_rfl)⟩
    refine (direction_calc_div.run direction_calc_two_interval_Add direction_calc_two_interval_Sub direction_calc_two_interval_Mul direction_calc_two_interval_Div interval_Div s0_0 a1_0 a1_1 a2_0 a2_1).trans ?_
    refine (direction_calc_div.nat direction_calc_two_interval_Add direction_calc_two_interval_Sub direction_calc_two_interval_Mul direction_calc_two_interval_Div interval_Div s0_0 a1_0 a1_1 a2_0 a2_1 _).trans ?_
    kernel_rfl
  · cases h
def direction_Of.K {R:Type} (f_direction_calc_box:Int→Int→Int→Int→Int→Int→Int→(Int×Int×Int×Int×Int×Int×Int×Int)) (f_interval_Valid:Int→Int→(Bool)) (f_direction_calc_one_interval_Square:Int→Int→Int→(Int×Int×Int)) (f_direction_calc_one_interval_Sqrt:Int→Int→Int→(Int×Int×Int)) (f_interval_Square:Int→Int→(Int×Int×Int)) (f_direction_calc_add:Int→Int→Int→Int→Int→(Int×Int×Int)) (f_direction_calc_div:Int→Int→Int→Int→Int→(Int×Int×Int)) (f_direction_calc_sub:Int→Int→Int→Int→Int→(Int×Int×Int)) (a0_0:Int) (a0_1:Int) (a1_0:Int) (a1_1:Int) (k:Int×Int×Int×Int×Int×Int×Int→R):R:=
 let t0:=f_interval_Valid a0_0 a0_1
 bif !t0 then k (0,0,0,0,0,0,1) else
 let t1:=f_interval_Valid a1_0 a1_1
 bif !t1 then k (0,0,0,0,0,0,1) else
 let t2:=f_direction_calc_one_interval_Square 0 a0_0 a0_1
 let t3:=f_direction_calc_one_interval_Square t2.snd.snd a1_0 a1_1
 let t4:=f_direction_calc_add t3.snd.snd t2.fst t2.snd.fst t3.fst t3.snd.fst
 let t5:=f_direction_calc_add t4.snd.snd 16777216 16777216 t4.fst t4.snd.fst
 let t6:=f_direction_calc_add t5.snd.snd a0_0 a0_1 a0_0 a0_1
 let t7:=f_direction_calc_div t6.snd.snd t6.fst t6.snd.fst t5.fst t5.snd.fst
 let t8:=f_direction_calc_add t7.snd.snd a1_0 a1_1 a1_0 a1_1
 let t9:=f_direction_calc_div t8.snd.snd t8.fst t8.snd.fst t5.fst t5.snd.fst
 let t10:=f_direction_calc_sub t9.snd.snd t4.fst t4.snd.fst 16777216 16777216
 let t11:=f_direction_calc_div t10.snd.snd t10.fst t10.snd.fst t5.fst t5.snd.fst
 let t12:=f_direction_calc_box t11.snd.snd t7.fst t7.snd.fst t9.fst t9.snd.fst t11.fst t11.snd.fst
 k (t12.fst,t12.snd.fst,t12.snd.snd.fst,t12.snd.snd.snd.fst,t12.snd.snd.snd.snd.fst,t12.snd.snd.snd.snd.snd.fst,t12.snd.snd.snd.snd.snd.snd.fst)
set_option maxRecDepth 100000 in
theorem direction_Of.run (f_direction_calc_box:Int→Int→Int→Int→Int→Int→Int→(Int×Int×Int×Int×Int×Int×Int×Int)) (f_interval_Valid:Int→Int→(Bool)) (f_direction_calc_one_interval_Square:Int→Int→Int→(Int×Int×Int)) (f_direction_calc_one_interval_Sqrt:Int→Int→Int→(Int×Int×Int)) (f_interval_Square:Int→Int→(Int×Int×Int)) (f_direction_calc_add:Int→Int→Int→Int→Int→(Int×Int×Int)) (f_direction_calc_div:Int→Int→Int→Int→Int→(Int×Int×Int)) (f_direction_calc_sub:Int→Int→Int→Int→Int→(Int×Int×Int)) (a0_0:Int) (a0_1:Int) (a1_0:Int) (a1_1:Int):xfn Tryz.prog ⟨[(64,direction_calc_box.sp f_direction_calc_box),(65,interval_Valid.sp f_interval_Valid),(66,direction_calc_one.sp f_direction_calc_one_interval_Square f_direction_calc_one_interval_Sqrt),(67,interval_Square.sp f_interval_Square),(68,direction_calc_add.sp f_direction_calc_add),(69,direction_calc_div.sp f_direction_calc_div),(70,direction_calc_sub.sp f_direction_calc_sub)],[],[]⟩ [] 40 Tryz.f20 [.agg ⟨[.int .i64 a0_0,.int .i64 a0_1]⟩,.agg ⟨[.int .i64 a1_0,.int .i64 a1_1]⟩] []=direction_Of.K f_direction_calc_box f_interval_Valid f_direction_calc_one_interval_Square f_direction_calc_one_interval_Sqrt f_interval_Square f_direction_calc_add f_direction_calc_div f_direction_calc_sub a0_0 a0_1 a1_0 a1_1 (fun r=>some (.tuple ⟨[.agg ⟨[.int .i64 r.1,.int .i64 r.2.1,.int .i64 r.2.2.1,.int .i64 r.2.2.2.1,.int .i64 r.2.2.2.2.1,.int .i64 r.2.2.2.2.2.1]⟩,.int .i64 r.2.2.2.2.2.2]⟩,[])):=by kernel_rfl
def direction_Of (a0_0:Int) (a0_1:Int) (a1_0:Int) (a1_1:Int):Int×Int×Int×Int×Int×Int×Int:=direction_Of.K direction_calc_box interval_Valid direction_calc_one_interval_Square direction_calc_one_interval_Sqrt interval_Square direction_calc_add direction_calc_div direction_calc_sub a0_0 a0_1 a1_0 a1_1 id
theorem direction_Of.nat {R:Type} (f_direction_calc_box:Int→Int→Int→Int→Int→Int→Int→(Int×Int×Int×Int×Int×Int×Int×Int)) (f_interval_Valid:Int→Int→(Bool)) (f_direction_calc_one_interval_Square:Int→Int→Int→(Int×Int×Int)) (f_direction_calc_one_interval_Sqrt:Int→Int→Int→(Int×Int×Int)) (f_interval_Square:Int→Int→(Int×Int×Int)) (f_direction_calc_add:Int→Int→Int→Int→Int→(Int×Int×Int)) (f_direction_calc_div:Int→Int→Int→Int→Int→(Int×Int×Int)) (f_direction_calc_sub:Int→Int→Int→Int→Int→(Int×Int×Int)) (a0_0:Int) (a0_1:Int) (a1_0:Int) (a1_1:Int) (k:Int×Int×Int×Int×Int×Int×Int→R):direction_Of.K f_direction_calc_box f_interval_Valid f_direction_calc_one_interval_Square f_direction_calc_one_interval_Sqrt f_interval_Square f_direction_calc_add f_direction_calc_div f_direction_calc_sub a0_0 a0_1 a1_0 a1_1 k=k (direction_Of.K f_direction_calc_box f_interval_Valid f_direction_calc_one_interval_Square f_direction_calc_one_interval_Sqrt f_interval_Square f_direction_calc_add f_direction_calc_div f_direction_calc_sub a0_0 a0_1 a1_0 a1_1 id):=by
  simp only [direction_Of.K,acond k,id_eq]
def dnorm (a:Bx):Re I2:=bif VB a then (sqR a.1).bind fun x=>(sqR a.2.1).bind fun y=>(sqR a.2.2).bind fun z=>(addR x y).bind fun s=>addR s z else .er 1
def dunit (a:Bx):Re Bx:=(dnorm a).bind fun n=>(rtR n).bind fun l=>dzip divR a (l,l,l)
def dof (u v:I2):Re Bx:=bif V2 u then (bif V2 v then (sqR u).bind fun p=>(sqR v).bind fun q=>(addR p q).bind fun s=>(addR one2 s).bind fun w=>(addR u u).bind fun x=>(divR x w).bind fun X=>(addR v v).bind fun y=>(divR y w).bind fun Y=>(subR s one2).bind fun z=>(divR z w).bind fun Z=> .ok (X,Y,Z) else .er 1) else .er 1
theorem div_inc {x X y Y:I2} (h:S2 x X) (h':S2 y Y):Inc S2 (divR x y) (divR X Y):=Inc.t3 fun L H e=>idiv_inc h.1 h'.1 e
theorem dnorm_inc {a A:Bx} (h:SB a A):Inc S2 (dnorm a) (dnorm A):=Inc.cond h.v (Inc.bind (sq_inc h.1) fun _ _ h1=>Inc.bind (sq_inc h.2.1) fun _ _ h2=>Inc.bind (sq_inc h.2.2) fun _ _ h3=>Inc.bind (add_inc h1 h2) fun _ _ h4=>add_inc h4 h3)
theorem dunit_inc {a A:Bx} (h:SB a A):Inc SB (dunit a) (dunit A):=Inc.bind (dnorm_inc h) fun _ _ h1=>Inc.bind (rt_inc h1) fun _ _ h2=>dzip_inc (fun _ _ _ _=>div_inc) h ⟨h2,h2,h2⟩
theorem dof_inc {u U v V':I2} (h:S2 u U) (h':S2 v V'):Inc SB (dof u v) (dof U V'):=Inc.cond h.v (Inc.cond h'.v (Inc.bind (sq_inc h) fun _ _ p=>Inc.bind (sq_inc h') fun _ _ q=>Inc.bind (add_inc p q) fun _ _ s=>Inc.bind (add_inc (S2.refl one_v) s) fun _ _ w=>Inc.bind (add_inc h h) fun _ _ x=>Inc.bind (div_inc x w) fun _ _ X=>Inc.bind (add_inc h' h') fun _ _ y=>Inc.bind (div_inc y w) fun _ _ Y=>Inc.bind (sub_inc s (S2.refl one_v)) fun _ _ z=>Inc.bind (div_inc z w) fun _ _ Z=>Inc.ok ⟨X,Y,Z⟩))
theorem dnorm_nz (a:Bx):Nz (dnorm a):=Nz.cond ((Nz.t3 _).bind fun _=>(Nz.t3 _).bind fun _=>(Nz.t3 _).bind fun _=>(Nz.t3 _).bind fun _=>Nz.t3 _) Nz.one
theorem dunit_nz (a:Bx):Nz (dunit a):=(dnorm_nz a).bind fun _=>(Nz.t3 _).bind fun _=>dzip_nz (fun _ _=>Nz.t3 _) _ _
theorem dof_nz (u v:I2):Nz (dof u v):=Nz.cond (Nz.cond ((Nz.t3 _).bind fun _=>(Nz.t3 _).bind fun _=>(Nz.t3 _).bind fun _=>(Nz.t3 _).bind fun _=>(Nz.t3 _).bind fun _=>(Nz.t3 _).bind fun _=>(Nz.t3 _).bind fun _=>(Nz.t3 _).bind fun _=>(Nz.t3 _).bind fun _=>(Nz.t3 _).bind fun _=>Nz.ok) Nz.one) Nz.one
theorem direction_Of.eq (a0 a1 b0 b1:Int):direction_Of a0 a1 b0 b1=o7 (dof (a0,a1) (b0,b1)):=by
  simp only [direction_Of,direction_Of.K,id_eq,interval_Valid.eq,direction_calc_one_interval_Square.eq,direction_calc_add.eq,direction_calc_sub.eq,direction_calc_div.eq,direction_calc_box,direction_calc_box.K,id_eq,dof,one2,sqR,addR,subR,divR,V2]
  cases hV0:V a0 a1 with
  | false=>
    simp only [hV0,st0,kr0,st70,t3_ok,bind_ok,bind_er,o7,o3,o2,o11,V2_mk,kp0,cond_true,cond_false,Bool.not_true,Bool.not_false,Bool.false_and,Bool.and_false,Bool.true_and,Bool.and_true,bne_self_eq_false,beq_self_eq_true,if_true,if_false]
  | true=>
    cases hV1:V b0 b1 with
    | false=>
      simp only [hV0,hV1,st0,kr0,st70,t3_ok,bind_ok,bind_er,o7,o3,o2,o11,V2_mk,kp0,cond_true,cond_false,Bool.not_true,Bool.not_false,Bool.false_and,Bool.and_false,Bool.true_and,Bool.and_true,bne_self_eq_false,beq_self_eq_true,if_true,if_false]
    | true=>
      rcases t3c (isq a0 a1) with ⟨p0,p1,h0⟩|⟨p0,p1,e0,n0,h0⟩
      · simp only [hV0, hV1,h0,st0,kr0,st70,t3_ok,bind_ok,bind_er,o7,o3,o2,o11,V2_mk,kp0,cond_true,cond_false,Bool.not_true,Bool.not_false,Bool.false_and,Bool.and_false,Bool.true_and,Bool.and_true,bne_self_eq_false,beq_self_eq_true,if_true,if_false]
        rcases t3c (isq b0 b1) with ⟨q0,q1,h1⟩|⟨q0,q1,e1,n1,h1⟩
        · simp only [h1,st0,kr0,st70,t3_ok,bind_ok,bind_er,o7,o3,o2,o11,V2_mk,kp0,cond_true,cond_false,Bool.not_true,Bool.not_false,Bool.false_and,Bool.and_false,Bool.true_and,Bool.and_true,bne_self_eq_false,beq_self_eq_true,if_true,if_false]
          rcases t3c (iadd p0 p1 q0 q1) with ⟨s0,s1,h2⟩|⟨s0,s1,e2,n2,h2⟩
          · simp only [h2,st0,kr0,st70,t3_ok,bind_ok,bind_er,o7,o3,o2,o11,V2_mk,kp0,cond_true,cond_false,Bool.not_true,Bool.not_false,Bool.false_and,Bool.and_false,Bool.true_and,Bool.and_true,bne_self_eq_false,beq_self_eq_true,if_true,if_false]
            rcases t3c (iadd 16777216 16777216 s0 s1) with ⟨w0,w1,h3⟩|⟨w0,w1,e3,n3,h3⟩
            · simp only [h3,st0,kr0,st70,t3_ok,bind_ok,bind_er,o7,o3,o2,o11,V2_mk,kp0,cond_true,cond_false,Bool.not_true,Bool.not_false,Bool.false_and,Bool.and_false,Bool.true_and,Bool.and_true,bne_self_eq_false,beq_self_eq_true,if_true,if_false]
              rcases t3c (iadd a0 a1 a0 a1) with ⟨x0,x1,h4⟩|⟨x0,x1,e4,n4,h4⟩
              · simp only [h4,st0,kr0,st70,t3_ok,bind_ok,bind_er,o7,o3,o2,o11,V2_mk,kp0,cond_true,cond_false,Bool.not_true,Bool.not_false,Bool.false_and,Bool.and_false,Bool.true_and,Bool.and_true,bne_self_eq_false,beq_self_eq_true,if_true,if_false]
                rcases t3c (idiv x0 x1 w0 w1) with ⟨X0,X1,h5⟩|⟨X0,X1,e5,n5,h5⟩
                · simp only [h5,st0,kr0,st70,t3_ok,bind_ok,bind_er,o7,o3,o2,o11,V2_mk,kp0,cond_true,cond_false,Bool.not_true,Bool.not_false,Bool.false_and,Bool.and_false,Bool.true_and,Bool.and_true,bne_self_eq_false,beq_self_eq_true,if_true,if_false]
                  rcases t3c (iadd b0 b1 b0 b1) with ⟨y0,y1,h6⟩|⟨y0,y1,e6,n6,h6⟩
                  · simp only [h6,st0,kr0,st70,t3_ok,bind_ok,bind_er,o7,o3,o2,o11,V2_mk,kp0,cond_true,cond_false,Bool.not_true,Bool.not_false,Bool.false_and,Bool.and_false,Bool.true_and,Bool.and_true,bne_self_eq_false,beq_self_eq_true,if_true,if_false]
                    rcases t3c (idiv y0 y1 w0 w1) with ⟨Y0,Y1,h7⟩|⟨Y0,Y1,e7,n7,h7⟩
                    · simp only [h7,st0,kr0,st70,t3_ok,bind_ok,bind_er,o7,o3,o2,o11,V2_mk,kp0,cond_true,cond_false,Bool.not_true,Bool.not_false,Bool.false_and,Bool.and_false,Bool.true_and,Bool.and_true,bne_self_eq_false,beq_self_eq_true,if_true,if_false]
                      rcases t3c (isub s0 s1 16777216 16777216) with ⟨z0,z1,h8⟩|⟨z0,z1,e8,n8,h8⟩
                      · simp only [h8,st0,kr0,st70,t3_ok,bind_ok,bind_er,o7,o3,o2,o11,V2_mk,kp0,cond_true,cond_false,Bool.not_true,Bool.not_false,Bool.false_and,Bool.and_false,Bool.true_and,Bool.and_true,bne_self_eq_false,beq_self_eq_true,if_true,if_false]
                        rcases t3c (idiv z0 z1 w0 w1) with ⟨Z0,Z1,h9⟩|⟨Z0,Z1,e9,n9,h9⟩
                        · simp only [h9,st0,kr0,st70,t3_ok,bind_ok,bind_er,o7,o3,o2,o11,V2_mk,kp0,cond_true,cond_false,Bool.not_true,Bool.not_false,Bool.false_and,Bool.and_false,Bool.true_and,Bool.and_true,bne_self_eq_false,beq_self_eq_true,if_true,if_false]
                        · simp only [h9,stE n9,krE n9,st7E n9,t3_er n9,bne_of n9,beq_of n9,kpn _ n9,st0,kr0,st70,t3_ok,bind_ok,bind_er,o7,o3,o2,o11,V2_mk,kp0,cond_true,cond_false,Bool.not_true,Bool.not_false,Bool.false_and,Bool.and_false,Bool.true_and,Bool.and_true,bne_self_eq_false,beq_self_eq_true,if_true,if_false]
                      · simp only [h8,stE n8,krE n8,st7E n8,t3_er n8,bne_of n8,beq_of n8,kpn _ n8,st0,kr0,st70,t3_ok,bind_ok,bind_er,o7,o3,o2,o11,V2_mk,kp0,cond_true,cond_false,Bool.not_true,Bool.not_false,Bool.false_and,Bool.and_false,Bool.true_and,Bool.and_true,bne_self_eq_false,beq_self_eq_true,if_true,if_false]
                    · simp only [h7,stE n7,krE n7,st7E n7,t3_er n7,bne_of n7,beq_of n7,kpn _ n7,st0,kr0,st70,t3_ok,bind_ok,bind_er,o7,o3,o2,o11,V2_mk,kp0,cond_true,cond_false,Bool.not_true,Bool.not_false,Bool.false_and,Bool.and_false,Bool.true_and,Bool.and_true,bne_self_eq_false,beq_self_eq_true,if_true,if_false]
                  · simp only [h6,stE n6,krE n6,st7E n6,t3_er n6,bne_of n6,beq_of n6,kpn _ n6,st0,kr0,st70,t3_ok,bind_ok,bind_er,o7,o3,o2,o11,V2_mk,kp0,cond_true,cond_false,Bool.not_true,Bool.not_false,Bool.false_and,Bool.and_false,Bool.true_and,Bool.and_true,bne_self_eq_false,beq_self_eq_true,if_true,if_false]
                · simp only [h5,stE n5,krE n5,st7E n5,t3_er n5,bne_of n5,beq_of n5,kpn _ n5,st0,kr0,st70,t3_ok,bind_ok,bind_er,o7,o3,o2,o11,V2_mk,kp0,cond_true,cond_false,Bool.not_true,Bool.not_false,Bool.false_and,Bool.and_false,Bool.true_and,Bool.and_true,bne_self_eq_false,beq_self_eq_true,if_true,if_false]
              · simp only [h4,stE n4,krE n4,st7E n4,t3_er n4,bne_of n4,beq_of n4,kpn _ n4,st0,kr0,st70,t3_ok,bind_ok,bind_er,o7,o3,o2,o11,V2_mk,kp0,cond_true,cond_false,Bool.not_true,Bool.not_false,Bool.false_and,Bool.and_false,Bool.true_and,Bool.and_true,bne_self_eq_false,beq_self_eq_true,if_true,if_false]
            · simp only [h3,stE n3,krE n3,st7E n3,t3_er n3,bne_of n3,beq_of n3,kpn _ n3,st0,kr0,st70,t3_ok,bind_ok,bind_er,o7,o3,o2,o11,V2_mk,kp0,cond_true,cond_false,Bool.not_true,Bool.not_false,Bool.false_and,Bool.and_false,Bool.true_and,Bool.and_true,bne_self_eq_false,beq_self_eq_true,if_true,if_false]
          · simp only [h2,stE n2,krE n2,st7E n2,t3_er n2,bne_of n2,beq_of n2,kpn _ n2,st0,kr0,st70,t3_ok,bind_ok,bind_er,o7,o3,o2,o11,V2_mk,kp0,cond_true,cond_false,Bool.not_true,Bool.not_false,Bool.false_and,Bool.and_false,Bool.true_and,Bool.and_true,bne_self_eq_false,beq_self_eq_true,if_true,if_false]
        · simp only [h1,stE n1,krE n1,st7E n1,t3_er n1,bne_of n1,beq_of n1,kpn _ n1,st0,kr0,st70,t3_ok,bind_ok,bind_er,o7,o3,o2,o11,V2_mk,kp0,cond_true,cond_false,Bool.not_true,Bool.not_false,Bool.false_and,Bool.and_false,Bool.true_and,Bool.and_true,bne_self_eq_false,beq_self_eq_true,if_true,if_false]
      · simp only [hV0,hV1,h0,stE n0,krE n0,st7E n0,t3_er n0,bne_of n0,beq_of n0,kpn _ n0,st0,kr0,st70,t3_ok,bind_ok,bind_er,o7,o3,o2,o11,V2_mk,kp0,cond_true,cond_false,Bool.not_true,Bool.not_false,Bool.false_and,Bool.and_false,Bool.true_and,Bool.and_true,bne_self_eq_false,beq_self_eq_true,if_true,if_false]
theorem direction_Of.ok:SOK Tryz.prog 20 (direction_Of.sp direction_Of):=by
  refine sok_of (E:=⟨[(64,direction_calc_box.sp direction_calc_box),(65,interval_Valid.sp interval_Valid),(66,direction_calc_one.sp direction_calc_one_interval_Square direction_calc_one_interval_Sqrt),(67,interval_Square.sp interval_Square),(68,direction_calc_add.sp direction_calc_add),(69,direction_calc_div.sp direction_calc_div),(70,direction_calc_sub.sp direction_calc_sub)],[],[]⟩) (L:=[]) ⟨(specs_cons direction_calc_box.ok (specs_cons interval_Valid.ok (specs_cons direction_calc_one.ok (specs_cons interval_Square.ok (specs_cons direction_calc_add.ok (specs_cons direction_calc_div.ok (specs_cons direction_calc_sub.ok specs_nil))))))),inl_nil,mixed_ok,lps_nil⟩ 40 Tryz.func20 (by decide) rfl no_loops fun vs bl v bl' h=> ?_
  unfold direction_Of.sp at h
  split at h
  · rename_i a0_0 a0_1 a1_0 a1_1
    simp only [Option.some.injEq,Prod.mk.injEq,true_and] at h
    obtain ⟨rfl,rfl⟩:=h
    refine ⟨?_,by simp [okV,Nat.blt],clo_spec 8 _ (by kernel_rfl),told_blk (by kernel_rfl)⟩
    refine (direction_Of.run direction_calc_box interval_Valid direction_calc_one_interval_Square direction_calc_one_interval_Sqrt interval_Square direction_calc_add direction_calc_div direction_calc_sub a0_0 a0_1 a1_0 a1_1).trans ?_
    refine (direction_Of.nat direction_calc_box interval_Valid direction_calc_one_interval_Square direction_calc_one_interval_Sqrt interval_Square direction_calc_add direction_calc_div direction_calc_sub a0_0 a0_1 a1_0 a1_1 _).trans ?_
    kernel_rfl
  · cases h
end Go.Proofs.YtpejalpgficopaaGreatDoor.G
end
