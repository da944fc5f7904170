/- A part of what the law's proof leans on. PACKED BY pack.py of this repo. -/
import Derived.Test.YtpejalpgficopaaGreatDoorR14
section
namespace Go.Proofs.YtpejalpgficopaaGreatDoor.G
open Go Go.Proofs Go.RowKit RX
set_option linter.unusedVariables false
set_option linter.unusedSimpArgs false
def culetlaw28_within.K {R:Type} (a0_0:Int) (a0_1:Int) (a1:Int) (a2:Int) (k:Int×Int→Option R):Option R:=
 bif IntKind.i64.wrap (IntKind.i64.wrap (a0_1-a0_0)+1) !=0 then bif IntKind.i64.wrap (IntKind.i64.wrap (a0_1-a0_0)+1) !=0 then k (if IntKind.i64.wrap (a0_0+(IntKind.i64.wrap a2).tmod (IntKind.i64.wrap (IntKind.i64.wrap (a0_1-a0_0)+1)))<IntKind.i64.wrap (a0_0+(IntKind.i64.wrap a1).tmod (IntKind.i64.wrap (IntKind.i64.wrap (a0_1-a0_0)+1))) then IntKind.i64.wrap (a0_0+(IntKind.i64.wrap a2).tmod (IntKind.i64.wrap (IntKind.i64.wrap (a0_1-a0_0)+1))) else IntKind.i64.wrap (a0_0+(IntKind.i64.wrap a1).tmod (IntKind.i64.wrap (IntKind.i64.wrap (a0_1-a0_0)+1))),if IntKind.i64.wrap (a0_0+(IntKind.i64.wrap a2).tmod (IntKind.i64.wrap (IntKind.i64.wrap (a0_1-a0_0)+1)))>IntKind.i64.wrap (a0_0+(IntKind.i64.wrap a1).tmod (IntKind.i64.wrap (IntKind.i64.wrap (a0_1-a0_0)+1))) then IntKind.i64.wrap (a0_0+(IntKind.i64.wrap a2).tmod (IntKind.i64.wrap (IntKind.i64.wrap (a0_1-a0_0)+1))) else IntKind.i64.wrap (a0_0+(IntKind.i64.wrap a1).tmod (IntKind.i64.wrap (IntKind.i64.wrap (a0_1-a0_0)+1)))) else none else none
set_option maxRecDepth 100000 in
theorem culetlaw28_within.run (a0_0:Int) (a0_1:Int) (a1:Int) (a2:Int):xfn Tryz.prog ⟨[],[],[]⟩ [] 40 Tryz.f80 [.agg ⟨[.int .i64 a0_0,.int .i64 a0_1]⟩,.int .u32 a1,.int .u32 a2] []=culetlaw28_within.K a0_0 a0_1 a1 a2 (fun r=>some (.agg ⟨[.int .i64 r.1,.int .i64 r.2]⟩,[])):=by kernel_rfl
def culetlaw28_within.o (a0_0:Int) (a0_1:Int) (a1:Int) (a2:Int):Option (Int×Int):=culetlaw28_within.K a0_0 a0_1 a1 a2 some
def culetlaw28_within.pre (a0_0:Int) (a0_1:Int) (a1:Int) (a2:Int):Bool:=(culetlaw28_within.o a0_0 a0_1 a1 a2).isSome
def culetlaw28_within (a0_0:Int) (a0_1:Int) (a1:Int) (a2:Int):Int×Int:=(culetlaw28_within.o a0_0 a0_1 a1 a2).getD default
theorem culetlaw28_within.nat {R:Type} (a0_0:Int) (a0_1:Int) (a1:Int) (a2:Int) (k:Int×Int→Option R):culetlaw28_within.K a0_0 a0_1 a1 a2 k=(culetlaw28_within.K a0_0 a0_1 a1 a2 some).bind k:=by
  simp only [culetlaw28_within.K,bcond,Option.bind_some,Option.bind_none]
theorem culetlaw28_within.in {a b k l:Int} (hv:V a b=true) (hk:0≤k) (hk':k≤4294967295) (hl:0≤l) (hl':l≤4294967295):culetlaw28_within.pre a b k l=true∧S2 (culetlaw28_within a b k l) (a,b):=by
  have hV:=V_iff.1 hv
  have w1:IntKind.i64.wrap (b-a)=b-a:=w64 (by omega) (by omega)
  have w2:IntKind.i64.wrap (b-a+1)=b-a+1:=w64 (by omega) (by omega)
  have w3:IntKind.i64.wrap k=k:=w64 (by omega) (by omega)
  have w4:IntKind.i64.wrap l=l:=w64 (by omega) (by omega)
  have n0:((b-a+1) !=0)=true:=by simp; omega
  have m1:=Int.emod_nonneg k (show b-a+1≠0 by omega)
  have m2:=Int.emod_lt_of_pos k (show 0<b-a+1 by omega)
  have m3:=Int.emod_nonneg l (show b-a+1≠0 by omega)
  have m4:=Int.emod_lt_of_pos l (show 0<b-a+1 by omega)
  have t1:k.tmod (b-a+1)=k%(b-a+1):=Int.tmod_eq_emod_of_nonneg hk
  have t2:l.tmod (b-a+1)=l%(b-a+1):=Int.tmod_eq_emod_of_nonneg hl
  generalize k%(b-a+1)=x at*
  generalize l%(b-a+1)=y at*
  have w5:IntKind.i64.wrap (a+x)=a+x:=w64 (by omega) (by omega)
  have w6:IntKind.i64.wrap (a+y)=a+y:=w64 (by omega) (by omega)
  have ho:culetlaw28_within.o a b k l=some (if a+y<a+x then a+y else a+x,if a+y>a+x then a+y else a+x):=by
    simp only [culetlaw28_within.o,culetlaw28_within.K,w1,w2,w3,w4,n0,t1,t2,w5,w6,cond_true]
  have h2:culetlaw28_within a b k l=(if a+y<a+x then a+y else a+x,if a+y>a+x then a+y else a+x):=by unfold culetlaw28_within; rw [ho]; rfl
  refine ⟨by unfold culetlaw28_within.pre; rw [ho]; rfl,?_,hv⟩
  rw [h2,mnE,mxE]
  show In (min _ _) (max _ _) a b
  unfold In
  omega
theorem culetlaw28_within.ok:SOK Tryz.prog 80 (culetlaw28_within.sp culetlaw28_within culetlaw28_within.pre):=by
  refine sok_of (E:=⟨[],[],[]⟩) (L:=[]) ⟨specs_nil,inl_nil,mixed_ok,lps_nil⟩ 40 Tryz.func80 (by decide) rfl no_loops fun vs bl v bl' h=> ?_
  unfold culetlaw28_within.sp at h
  split at h
  · rename_i a0_0 a0_1 a1 a2
    simp only [Option.some.injEq,Prod.mk.injEq] at h
    obtain ⟨hp,rfl,rfl⟩:=h
    have hr:=culetlaw28_within.run a0_0 a0_1 a1 a2
    rw [culetlaw28_within.nat] at hr
    obtain ⟨r,h2⟩:=Option.isSome_iff_exists.1 (hp:(culetlaw28_within.o a0_0 a0_1 a1 a2).isSome=true)
    have h3:culetlaw28_within a0_0 a0_1 a1 a2=r:=by unfold culetlaw28_within; rw [h2]; rfl
    have h4:culetlaw28_within.K a0_0 a0_1 a1 a2 some=some r:=h2
    rw [h4,Option.bind_some] at hr
    rw [h3]
    exact ⟨hr,by simp [okV,Nat.blt],clo_spec 8 _ (by kernel_rfl),told_blk (by kernel_rfl)⟩
  · cases h
def culetlaw28_Part.K {R:Type} (f_culetlaw28_within:Int→Int→Int→Int→(Int×Int)) (p_culetlaw28_within:Int→Int→Int→Int→Bool) (a0_0:Int) (a0_1:Int) (a0_2:Int) (a0_3:Int) (a0_4:Int) (a0_5:Int) (a1_0:Int) (a1_1:Int) (a1_2:Int) (a1_3:Int) (a1_4:Int) (a1_5:Int) (k:Int×Int×Int×Int×Int×Int→Option R):Option R:=
 let t0:=p_culetlaw28_within a0_0 a0_1 a1_0 a1_1
 bif t0 then
 let t1:=p_culetlaw28_within a0_2 a0_3 a1_2 a1_3
 bif t1 then
 let t2:=p_culetlaw28_within a0_4 a0_5 a1_4 a1_5
 bif t2 then
 let t3:=f_culetlaw28_within a0_0 a0_1 a1_0 a1_1
 let t4:=f_culetlaw28_within a0_2 a0_3 a1_2 a1_3
 let t5:=f_culetlaw28_within a0_4 a0_5 a1_4 a1_5
 k (t3.fst,t3.snd,t4.fst,t4.snd,t5.fst,t5.snd) else none else none else none
set_option maxRecDepth 100000 in
theorem culetlaw28_Part.run (f_culetlaw28_within:Int→Int→Int→Int→(Int×Int)) (p_culetlaw28_within:Int→Int→Int→Int→Bool) (a0_0:Int) (a0_1:Int) (a0_2:Int) (a0_3:Int) (a0_4:Int) (a0_5:Int) (a1_0:Int) (a1_1:Int) (a1_2:Int) (a1_3:Int) (a1_4:Int) (a1_5:Int):xfn Tryz.prog ⟨[(80,culetlaw28_within.sp f_culetlaw28_within p_culetlaw28_within)],[],[]⟩ [] 40 Tryz.f35 [.agg ⟨[.int .i64 a0_0,.int .i64 a0_1,.int .i64 a0_2,.int .i64 a0_3,.int .i64 a0_4,.int .i64 a0_5]⟩,.agg ⟨[.int .u32 a1_0,.int .u32 a1_1,.int .u32 a1_2,.int .u32 a1_3,.int .u32 a1_4,.int .u32 a1_5]⟩] []=culetlaw28_Part.K f_culetlaw28_within p_culetlaw28_within a0_0 a0_1 a0_2 a0_3 a0_4 a0_5 a1_0 a1_1 a1_2 a1_3 a1_4 a1_5 (fun r=>some (.agg ⟨[.int .i64 r.1,.int .i64 r.2.1,.int .i64 r.2.2.1,.int .i64 r.2.2.2.1,.int .i64 r.2.2.2.2.1,.int .i64 r.2.2.2.2.2]⟩,[])):=by kernel_rfl
def culetlaw28_Part.o (a0_0:Int) (a0_1:Int) (a0_2:Int) (a0_3:Int) (a0_4:Int) (a0_5:Int) (a1_0:Int) (a1_1:Int) (a1_2:Int) (a1_3:Int) (a1_4:Int) (a1_5:Int):Option (Int×Int×Int×Int×Int×Int):=culetlaw28_Part.K culetlaw28_within culetlaw28_within.pre a0_0 a0_1 a0_2 a0_3 a0_4 a0_5 a1_0 a1_1 a1_2 a1_3 a1_4 a1_5 some
def culetlaw28_Part.pre (a0_0:Int) (a0_1:Int) (a0_2:Int) (a0_3:Int) (a0_4:Int) (a0_5:Int) (a1_0:Int) (a1_1:Int) (a1_2:Int) (a1_3:Int) (a1_4:Int) (a1_5:Int):Bool:=(culetlaw28_Part.o a0_0 a0_1 a0_2 a0_3 a0_4 a0_5 a1_0 a1_1 a1_2 a1_3 a1_4 a1_5).isSome
def culetlaw28_Part (a0_0:Int) (a0_1:Int) (a0_2:Int) (a0_3:Int) (a0_4:Int) (a0_5:Int) (a1_0:Int) (a1_1:Int) (a1_2:Int) (a1_3:Int) (a1_4:Int) (a1_5:Int):Int×Int×Int×Int×Int×Int:=(culetlaw28_Part.o a0_0 a0_1 a0_2 a0_3 a0_4 a0_5 a1_0 a1_1 a1_2 a1_3 a1_4 a1_5).getD default
theorem culetlaw28_Part.nat {R:Type} (f_culetlaw28_within:Int→Int→Int→Int→(Int×Int)) (p_culetlaw28_within:Int→Int→Int→Int→Bool) (a0_0:Int) (a0_1:Int) (a0_2:Int) (a0_3:Int) (a0_4:Int) (a0_5:Int) (a1_0:Int) (a1_1:Int) (a1_2:Int) (a1_3:Int) (a1_4:Int) (a1_5:Int) (k:Int×Int×Int×Int×Int×Int→Option R):culetlaw28_Part.K f_culetlaw28_within p_culetlaw28_within a0_0 a0_1 a0_2 a0_3 a0_4 a0_5 a1_0 a1_1 a1_2 a1_3 a1_4 a1_5 k=(culetlaw28_Part.K f_culetlaw28_within p_culetlaw28_within a0_0 a0_1 a0_2 a0_3 a0_4 a0_5 a1_0 a1_1 a1_2 a1_3 a1_4 a1_5 some).bind k:=by
  simp only [culetlaw28_Part.K,bcond,Option.bind_some,Option.bind_none]
def bxv (r:Int×Int×Int×Int×Int×Int):Bx:=((r.1,r.2.1),(r.2.2.1,r.2.2.2.1),(r.2.2.2.2.1,r.2.2.2.2.2))
theorem culetlaw28_Part.in {a0 a1 a2 a3 a4 a5 k0 k1 k2 k3 k4 k5:Int} (hv:VB ((a0,a1),(a2,a3),(a4,a5))=true) (h0:0≤k0∧k0≤4294967295) (h1:0≤k1∧k1≤4294967295) (h2:0≤k2∧k2≤4294967295) (h3:0≤k3∧k3≤4294967295) (h4:0≤k4∧k4≤4294967295) (h5:0≤k5∧k5≤4294967295):culetlaw28_Part.pre a0 a1 a2 a3 a4 a5 k0 k1 k2 k3 k4 k5=true∧SB (bxv (culetlaw28_Part a0 a1 a2 a3 a4 a5 k0 k1 k2 k3 k4 k5)) ((a0,a1),(a2,a3),(a4,a5)):=by
  rw [VB_iff] at hv
  have i0:=culetlaw28_within.in hv.1 h0.1 h0.2 h1.1 h1.2
  have i1:=culetlaw28_within.in hv.2.1 h2.1 h2.2 h3.1 h3.2
  have i2:=culetlaw28_within.in hv.2.2 h4.1 h4.2 h5.1 h5.2
  have ho:culetlaw28_Part.o a0 a1 a2 a3 a4 a5 k0 k1 k2 k3 k4 k5=some ((culetlaw28_within a0 a1 k0 k1).1,(culetlaw28_within a0 a1 k0 k1).2,(culetlaw28_within a2 a3 k2 k3).1,(culetlaw28_within a2 a3 k2 k3).2,(culetlaw28_within a4 a5 k4 k5).1,(culetlaw28_within a4 a5 k4 k5).2):=by
    simp only [culetlaw28_Part.o,culetlaw28_Part.K,i0.1,i1.1,i2.1,cond_true]
  refine ⟨by unfold culetlaw28_Part.pre; rw [ho]; rfl,?_⟩
  unfold culetlaw28_Part
  rw [ho]
  exact ⟨i0.2,i1.2,i2.2⟩
theorem culetlaw28_Part.ok:SOK Tryz.prog 35 (culetlaw28_Part.sp culetlaw28_Part culetlaw28_Part.pre):=by
  refine sok_of (E:=⟨[(80,culetlaw28_within.sp culetlaw28_within culetlaw28_within.pre)],[],[]⟩) (L:=[]) ⟨(specs_cons culetlaw28_within.ok specs_nil),inl_nil,mixed_ok,lps_nil⟩ 40 Tryz.func35 (by decide) rfl no_loops fun vs bl v bl' h=> ?_
  unfold culetlaw28_Part.sp at h
  split at h
  · rename_i a0_0 a0_1 a0_2 a0_3 a0_4 a0_5 a1_0 a1_1 a1_2 a1_3 a1_4 a1_5
    simp only [Option.some.injEq,Prod.mk.injEq] at h
    obtain ⟨hp,rfl,rfl⟩:=h
    have hr:=culetlaw28_Part.run culetlaw28_within culetlaw28_within.pre a0_0 a0_1 a0_2 a0_3 a0_4 a0_5 a1_0 a1_1 a1_2 a1_3 a1_4 a1_5
    rw [culetlaw28_Part.nat] at hr
    obtain ⟨r,h2⟩:=Option.isSome_iff_exists.1 (hp:(culetlaw28_Part.o a0_0 a0_1 a0_2 a0_3 a0_4 a0_5 a1_0 a1_1 a1_2 a1_3 a1_4 a1_5).isSome=true)
    have h3:culetlaw28_Part a0_0 a0_1 a0_2 a0_3 a0_4 a0_5 a1_0 a1_1 a1_2 a1_3 a1_4 a1_5=r:=by unfold culetlaw28_Part; rw [h2]; rfl
    have h4:culetlaw28_Part.K culetlaw28_within culetlaw28_within.pre a0_0 a0_1 a0_2 a0_3 a0_4 a0_5 a1_0 a1_1 a1_2 a1_3 a1_4 a1_5 some=some r:=h2
    rw [h4,Option.bind_some] at hr
    rw [h3]
    exact ⟨hr,by simp [okV,Nat.blt],clo_spec 8 _ (by kernel_rfl),told_blk (by kernel_rfl)⟩
  · cases h
def direction_Norm2.K {R:Type} (f_direction_Valid:Int→Int→Int→Int→Int→Int→(Bool)) (f_direction_calc_one_interval_Square:Int→Int→Int→(Int×Int×Int)) (f_direction_calc_one_interval_Sqrt:Int→Int→Int→(Int×Int×Int)) (f_interval_Square:Int→Int→(Int×Int×Int)) (f_direction_calc_add:Int→Int→Int→Int→Int→(Int×Int×Int)) (f_direction_calc_result:Int→Int→Int→(Int×Int×Int×Int)) (a0_0:Int) (a0_1:Int) (a0_2:Int) (a0_3:Int) (a0_4:Int) (a0_5:Int) (k:Int×Int×Int→R):R:=
 let t0:=f_direction_Valid a0_0 a0_1 a0_2 a0_3 a0_4 a0_5
 bif !t0 then k (0,0,1) else
 let t1:=f_direction_calc_one_interval_Square 0 a0_0 a0_1
 let t2:=f_direction_calc_one_interval_Square t1.snd.snd a0_2 a0_3
 let t3:=f_direction_calc_one_interval_Square t2.snd.snd a0_4 a0_5
 let t4:=f_direction_calc_add t3.snd.snd t1.fst t1.snd.fst t2.fst t2.snd.fst
 let t5:=f_direction_calc_add t4.snd.snd t4.fst t4.snd.fst t3.fst t3.snd.fst
 let t6:=f_direction_calc_result t5.snd.snd t5.fst t5.snd.fst
 k (t6.fst,t6.snd.fst,t6.snd.snd.fst)
set_option maxRecDepth 100000 in
theorem direction_Norm2.run (f_direction_Valid:Int→Int→Int→Int→Int→Int→(Bool)) (f_direction_calc_one_interval_Square:Int→Int→Int→(Int×Int×Int)) (f_direction_calc_one_interval_Sqrt:Int→Int→Int→(Int×Int×Int)) (f_interval_Square:Int→Int→(Int×Int×Int)) (f_direction_calc_add:Int→Int→Int→Int→Int→(Int×Int×Int)) (f_direction_calc_result:Int→Int→Int→(Int×Int×Int×Int)) (a0_0:Int) (a0_1:Int) (a0_2:Int) (a0_3:Int) (a0_4:Int) (a0_5:Int):xfn Tryz.prog ⟨[(49,direction_Valid.sp f_direction_Valid),(66,direction_calc_one.sp f_direction_calc_one_interval_Square f_direction_calc_one_interval_Sqrt),(67,interval_Square.sp f_interval_Square),(68,direction_calc_add.sp f_direction_calc_add),(71,direction_calc_result.sp f_direction_calc_result)],[],[]⟩ [] 40 Tryz.f21 [.agg ⟨[.int .i64 a0_0,.int .i64 a0_1,.int .i64 a0_2,.int .i64 a0_3,.int .i64 a0_4,.int .i64 a0_5]⟩] []=direction_Norm2.K f_direction_Valid f_direction_calc_one_interval_Square f_direction_calc_one_interval_Sqrt f_interval_Square f_direction_calc_add f_direction_calc_result a0_0 a0_1 a0_2 a0_3 a0_4 a0_5 (fun r=>some (.tuple ⟨[.agg ⟨[.int .i64 r.1,.int .i64 r.2.1]⟩,.int .i64 r.2.2]⟩,[])):=by kernel_rfl
def direction_Norm2 (a0_0:Int) (a0_1:Int) (a0_2:Int) (a0_3:Int) (a0_4:Int) (a0_5:Int):Int×Int×Int:=direction_Norm2.K direction_Valid direction_calc_one_interval_Square direction_calc_one_interval_Sqrt interval_Square direction_calc_add direction_calc_result a0_0 a0_1 a0_2 a0_3 a0_4 a0_5 id
theorem direction_Norm2.nat {R:Type} (f_direction_Valid:Int→Int→Int→Int→Int→Int→(Bool)) (f_direction_calc_one_interval_Square:Int→Int→Int→(Int×Int×Int)) (f_direction_calc_one_interval_Sqrt:Int→Int→Int→(Int×Int×Int)) (f_interval_Square:Int→Int→(Int×Int×Int)) (f_direction_calc_add:Int→Int→Int→Int→Int→(Int×Int×Int)) (f_direction_calc_result:Int→Int→Int→(Int×Int×Int×Int)) (a0_0:Int) (a0_1:Int) (a0_2:Int) (a0_3:Int) (a0_4:Int) (a0_5:Int) (k:Int×Int×Int→R):direction_Norm2.K f_direction_Valid f_direction_calc_one_interval_Square f_direction_calc_one_interval_Sqrt f_interval_Square f_direction_calc_add f_direction_calc_result a0_0 a0_1 a0_2 a0_3 a0_4 a0_5 k=k (direction_Norm2.K f_direction_Valid f_direction_calc_one_interval_Square f_direction_calc_one_interval_Sqrt f_interval_Square f_direction_calc_add f_direction_calc_result a0_0 a0_1 a0_2 a0_3 a0_4 a0_5 id):=by
  simp only [direction_Norm2.K,acond k,id_eq]
theorem direction_Norm2.eq (a0 a1 a2 a3 a4 a5:Int):direction_Norm2 a0 a1 a2 a3 a4 a5=o3 (dnorm ((a0,a1),(a2,a3),(a4,a5))):=by
  simp only [direction_Norm2,direction_Norm2.K,id_eq,direction_Valid.eq,direction_calc_one_interval_Square.eq,direction_calc_add.eq,direction_calc_result,direction_calc_result.K,id_eq,dnorm,sqR,addR]
  cases hV0:VB ((a0,a1),(a2,a3),(a4,a5)) with
  | false=>
    simp only [hV0,st0,kr0,st70,t3_ok,bind_ok,bind_er,o7,o3,o2,o11,V2_mk,kp0,cond_true,cond_false,Bool.not_true,Bool.not_false,Bool.false_and,Bool.and_false,Bool.true_and,Bool.and_true,bne_self_eq_false,beq_self_eq_true,if_true,if_false]
  | true=>
    rcases t3c (isq a0 a1) with ⟨x0,x1,h0⟩|⟨x0,x1,e0,n0,h0⟩
    · simp only [hV0,h0,st0,kr0,st70,t3_ok,bind_ok,bind_er,o7,o3,o2,o11,V2_mk,kp0,cond_true,cond_false,Bool.not_true,Bool.not_false,Bool.false_and,Bool.and_false,Bool.true_and,Bool.and_true,bne_self_eq_false,beq_self_eq_true,if_true,if_false]
      rcases t3c (isq a2 a3) with ⟨y0,y1,h1⟩|⟨y0,y1,e1,n1,h1⟩
      · simp only [h1,st0,kr0,st70,t3_ok,bind_ok,bind_er,o7,o3,o2,o11,V2_mk,kp0,cond_true,cond_false,Bool.not_true,Bool.not_false,Bool.false_and,Bool.and_false,Bool.true_and,Bool.and_true,bne_self_eq_false,beq_self_eq_true,if_true,if_false]
        rcases t3c (isq a4 a5) with ⟨z0,z1,h2⟩|⟨z0,z1,e2,n2,h2⟩
        · simp only [h2,st0,kr0,st70,t3_ok,bind_ok,bind_er,o7,o3,o2,o11,V2_mk,kp0,cond_true,cond_false,Bool.not_true,Bool.not_false,Bool.false_and,Bool.and_false,Bool.true_and,Bool.and_true,bne_self_eq_false,beq_self_eq_true,if_true,if_false]
          rcases t3c (iadd x0 x1 y0 y1) with ⟨s0,s1,h3⟩|⟨s0,s1,e3,n3,h3⟩
          · simp only [h3,st0,kr0,st70,t3_ok,bind_ok,bind_er,o7,o3,o2,o11,V2_mk,kp0,cond_true,cond_false,Bool.not_true,Bool.not_false,Bool.false_and,Bool.and_false,Bool.true_and,Bool.and_true,bne_self_eq_false,beq_self_eq_true,if_true,if_false]
            rcases t3c (iadd s0 s1 z0 z1) with ⟨t0,t1,h4⟩|⟨t0,t1,e4,n4,h4⟩
            · simp only [h4,st0,kr0,st70,t3_ok,bind_ok,bind_er,o7,o3,o2,o11,V2_mk,kp0,cond_true,cond_false,Bool.not_true,Bool.not_false,Bool.false_and,Bool.and_false,Bool.true_and,Bool.and_true,bne_self_eq_false,beq_self_eq_true,if_true,if_false]
            · simp only [h4,stE n4,krE n4,st7E n4,t3_er n4,bne_of n4,beq_of n4,kpn _ n4,st0,kr0,st70,t3_ok,bind_ok,bind_er,o7,o3,o2,o11,V2_mk,kp0,cond_true,cond_false,Bool.not_true,Bool.not_false,Bool.false_and,Bool.and_false,Bool.true_and,Bool.and_true,bne_self_eq_false,beq_self_eq_true,if_true,if_false]
          · simp only [h3,stE n3,krE n3,st7E n3,t3_er n3,bne_of n3,beq_of n3,kpn _ n3,st0,kr0,st70,t3_ok,bind_ok,bind_er,o7,o3,o2,o11,V2_mk,kp0,cond_true,cond_false,Bool.not_true,Bool.not_false,Bool.false_and,Bool.and_false,Bool.true_and,Bool.and_true,bne_self_eq_false,beq_self_eq_true,if_true,if_false]
        · simp only [h2,stE n2,krE n2,st7E n2,t3_er n2,bne_of n2,beq_of n2,kpn _ n2,st0,kr0,st70,t3_ok,bind_ok,bind_er,o7,o3,o2,o11,V2_mk,kp0,cond_true,cond_false,Bool.not_true,Bool.not_false,Bool.false_and,Bool.and_false,Bool.true_and,Bool.and_true,bne_self_eq_false,beq_self_eq_true,if_true,if_false]
      · simp only [h1,stE n1,krE n1,st7E n1,t3_er n1,bne_of n1,beq_of n1,kpn _ n1,st0,kr0,st70,t3_ok,bind_ok,bind_er,o7,o3,o2,o11,V2_mk,kp0,cond_true,cond_false,Bool.not_true,Bool.not_false,Bool.false_and,Bool.and_false,Bool.true_and,Bool.and_true,bne_self_eq_false,beq_self_eq_true,if_true,if_false]
    · simp only [hV0,h0,stE n0,krE n0,st7E n0,t3_er n0,bne_of n0,beq_of n0,kpn _ n0,st0,kr0,st70,t3_ok,bind_ok,bind_er,o7,o3,o2,o11,V2_mk,kp0,cond_true,cond_false,Bool.not_true,Bool.not_false,Bool.false_and,Bool.and_false,Bool.true_and,Bool.and_true,bne_self_eq_false,beq_self_eq_true,if_true,if_false]
theorem direction_Norm2.ok:SOK Tryz.prog 21 (direction_Norm2.sp direction_Norm2):=by
  refine sok_of (E:=⟨[(49,direction_Valid.sp direction_Valid),(66,direction_calc_one.sp direction_calc_one_interval_Square direction_calc_one_interval_Sqrt),(67,interval_Square.sp interval_Square),(68,direction_calc_add.sp direction_calc_add),(71,direction_calc_result.sp direction_calc_result)],[],[]⟩) (L:=[]) ⟨(specs_cons direction_Valid.ok (specs_cons direction_calc_one.ok (specs_cons interval_Square.ok (specs_cons direction_calc_add.ok (specs_cons direction_calc_result.ok specs_nil))))),inl_nil,mixed_ok,lps_nil⟩ 40 Tryz.func21 (by decide) rfl no_loops fun vs bl v bl' h=> ?_
  unfold direction_Norm2.sp at h
  split at h
  · rename_i a0_0 a0_1 a0_2 a0_3 a0_4 a0_5
    simp only [Option.some.injEq,Prod.mk.injEq,true_and] at h
    obtain ⟨rfl,rfl⟩:=h
    refine ⟨?_,by simp [okV,Nat.blt],clo_spec 8 _ (by kernel_rfl),told_blk (by kernel_rfl)⟩
    refine (direction_Norm2.run direction_Valid direction_calc_one_interval_Square direction_calc_one_interval_Sqrt interval_Square direction_calc_add direction_calc_result a0_0 a0_1 a0_2 a0_3 a0_4 a0_5).trans ?_
    refine (direction_Norm2.nat direction_Valid direction_calc_one_interval_Square direction_calc_one_interval_Sqrt interval_Square direction_calc_add direction_calc_result a0_0 a0_1 a0_2 a0_3 a0_4 a0_5 _).trans ?_
    kernel_rfl
  · cases h
def direction_Unit.K {R:Type} (f_direction_Norm2:Int→Int→Int→Int→Int→Int→(Int×Int×Int)) (f_direction_calc_box:Int→Int→Int→Int→Int→Int→Int→(Int×Int×Int×Int×Int×Int×Int×Int)) (f_direction_calc_one_interval_Square:Int→Int→Int→(Int×Int×Int)) (f_direction_calc_one_interval_Sqrt:Int→Int→Int→(Int×Int×Int)) (f_direction_calc_div:Int→Int→Int→Int→Int→(Int×Int×Int)) (f_interval_Sqrt:Int→Int→(Int×Int×Int)) (a0_0:Int) (a0_1:Int) (a0_2:Int) (a0_3:Int) (a0_4:Int) (a0_5:Int) (k:Int×Int×Int×Int×Int×Int×Int→R):R:=
 let t0:=f_direction_Norm2 a0_0 a0_1 a0_2 a0_3 a0_4 a0_5
 bif t0.snd.snd !=0 then k (0,0,0,0,0,0,t0.snd.snd) else
 let t1:=f_direction_calc_one_interval_Sqrt 0 t0.fst t0.snd.fst
 let t2:=f_direction_calc_div t1.snd.snd a0_0 a0_1 t1.fst t1.snd.fst
 let t3:=f_direction_calc_div t2.snd.snd a0_2 a0_3 t1.fst t1.snd.fst
 let t4:=f_direction_calc_div t3.snd.snd a0_4 a0_5 t1.fst t1.snd.fst
 let t5:=f_direction_calc_box t4.snd.snd t2.fst t2.snd.fst t3.fst t3.snd.fst t4.fst t4.snd.fst
 k (t5.fst,t5.snd.fst,t5.snd.snd.fst,t5.snd.snd.snd.fst,t5.snd.snd.snd.snd.fst,t5.snd.snd.snd.snd.snd.fst,t5.snd.snd.snd.snd.snd.snd.fst)
set_option maxRecDepth 100000 in
theorem direction_Unit.run (f_direction_Norm2:Int→Int→Int→Int→Int→Int→(Int×Int×Int)) (f_direction_calc_box:Int→Int→Int→Int→Int→Int→Int→(Int×Int×Int×Int×Int×Int×Int×Int)) (f_direction_calc_one_interval_Square:Int→Int→Int→(Int×Int×Int)) (f_direction_calc_one_interval_Sqrt:Int→Int→Int→(Int×Int×Int)) (f_direction_calc_div:Int→Int→Int→Int→Int→(Int×Int×Int)) (f_interval_Sqrt:Int→Int→(Int×Int×Int)) (a0_0:Int) (a0_1:Int) (a0_2:Int) (a0_3:Int) (a0_4:Int) (a0_5:Int):xfn Tryz.prog ⟨[(21,direction_Norm2.sp f_direction_Norm2),(64,direction_calc_box.sp f_direction_calc_box),(66,direction_calc_one.sp f_direction_calc_one_interval_Square f_direction_calc_one_interval_Sqrt),(69,direction_calc_div.sp f_direction_calc_div),(81,interval_Sqrt.sp f_interval_Sqrt)],[],[]⟩ [] 40 Tryz.f36 [.agg ⟨[.int .i64 a0_0,.int .i64 a0_1,.int .i64 a0_2,.int .i64 a0_3,.int .i64 a0_4,.int .i64 a0_5]⟩] []=direction_Unit.K f_direction_Norm2 f_direction_calc_box f_direction_calc_one_interval_Square f_direction_calc_one_interval_Sqrt f_direction_calc_div f_interval_Sqrt a0_0 a0_1 a0_2 a0_3 a0_4 a0_5 (fun r=>some (.tuple ⟨[.agg ⟨[.int .i64 r.1,.int .i64 r.2.1,.int .i64 r.2.2.1,.int .i64 r.2.2.2.1,.int .i64 r.2.2.2.2.1,.int .i64 r.2.2.2.2.2.1]⟩,.int .i64 r.2.2.2.2.2.2]⟩,[])):=by kernel_rfl
def direction_Unit (a0_0:Int) (a0_1:Int) (a0_2:Int) (a0_3:Int) (a0_4:Int) (a0_5:Int):Int×Int×Int×Int×Int×Int×Int:=direction_Unit.K direction_Norm2 direction_calc_box direction_calc_one_interval_Square direction_calc_one_interval_Sqrt direction_calc_div interval_Sqrt a0_0 a0_1 a0_2 a0_3 a0_4 a0_5 id
theorem direction_Unit.nat {R:Type} (f_direction_Norm2:Int→Int→Int→Int→Int→Int→(Int×Int×Int)) (f_direction_calc_box:Int→Int→Int→Int→Int→Int→Int→(Int×Int×Int×Int×Int×Int×Int×Int)) (f_direction_calc_one_interval_Square:Int→Int→Int→(Int×Int×Int)) (f_direction_calc_one_interval_Sqrt:Int→Int→Int→(Int×Int×Int)) (f_direction_calc_div:Int→Int→Int→Int→Int→(Int×Int×Int)) (f_interval_Sqrt:Int→Int→(Int×Int×Int)) (a0_0:Int) (a0_1:Int) (a0_2:Int) (a0_3:Int) (a0_4:Int) (a0_5:Int) (k:Int×Int×Int×Int×Int×Int×Int→R):direction_Unit.K f_direction_Norm2 f_direction_calc_box f_direction_calc_one_interval_Square f_direction_calc_one_interval_Sqrt f_direction_calc_div f_interval_Sqrt a0_0 a0_1 a0_2 a0_3 a0_4 a0_5 k=k (direction_Unit.K f_direction_Norm2 f_direction_calc_box f_direction_calc_one_interval_Square f_direction_calc_one_interval_Sqrt f_direction_calc_div f_interval_Sqrt a0_0 a0_1 a0_2 a0_3 a0_4 a0_5 id):=by
  simp only [direction_Unit.K,acond k,id_eq]
theorem direction_Unit.eq (a0 a1 a2 a3 a4 a5:Int):direction_Unit a0 a1 a2 a3 a4 a5=o7 (dunit ((a0,a1),(a2,a3),(a4,a5))):=by
  simp only [direction_Unit,direction_Unit.K,id_eq,direction_Norm2.eq,direction_calc_one_interval_Sqrt.eq,direction_calc_div.eq,direction_calc_box,direction_calc_box.K,id_eq,dunit,dzip,rtR,divR]
  rcases (dnorm_nz ((a0,a1),(a2,a3),(a4,a5))).cases with ⟨⟨n0_,n1_⟩,h0⟩|⟨e0,n0,h0⟩
  · simp only [h0,st0,kr0,st70,t3_ok,bind_ok,bind_er,o7,o3,o2,o11,V2_mk,kp0,cond_true,cond_false,Bool.not_true,Bool.not_false,Bool.false_and,Bool.and_false,Bool.true_and,Bool.and_true,bne_self_eq_false,beq_self_eq_true,if_true,if_false]
    rcases t3c (isr n0_ n1_) with ⟨l0,l1,h1⟩|⟨l0,l1,e1,n1,h1⟩
    · simp only [h1,st0,kr0,st70,t3_ok,bind_ok,bind_er,o7,o3,o2,o11,V2_mk,kp0,cond_true,cond_false,Bool.not_true,Bool.not_false,Bool.false_and,Bool.and_false,Bool.true_and,Bool.and_true,bne_self_eq_false,beq_self_eq_true,if_true,if_false]
      rcases t3c (idiv a0 a1 l0 l1) with ⟨x0,x1,h2⟩|⟨x0,x1,e2,n2,h2⟩
      · simp only [h2,st0,kr0,st70,t3_ok,bind_ok,bind_er,o7,o3,o2,o11,V2_mk,kp0,cond_true,cond_false,Bool.not_true,Bool.not_false,Bool.false_and,Bool.and_false,Bool.true_and,Bool.and_true,bne_self_eq_false,beq_self_eq_true,if_true,if_false]
        rcases t3c (idiv a2 a3 l0 l1) with ⟨y0,y1,h3⟩|⟨y0,y1,e3,n3,h3⟩
        · simp only [h3,st0,kr0,st70,t3_ok,bind_ok,bind_er,o7,o3,o2,o11,V2_mk,kp0,cond_true,cond_false,Bool.not_true,Bool.not_false,Bool.false_and,Bool.and_false,Bool.true_and,Bool.and_true,bne_self_eq_false,beq_self_eq_true,if_true,if_false]
          rcases t3c (idiv a4 a5 l0 l1) with ⟨z0,z1,h4⟩|⟨z0,z1,e4,n4,h4⟩
          · simp only [h4,st0,kr0,st70,t3_ok,bind_ok,bind_er,o7,o3,o2,o11,V2_mk,kp0,cond_true,cond_false,Bool.not_true,Bool.not_false,Bool.false_and,Bool.and_false,Bool.true_and,Bool.and_true,bne_self_eq_false,beq_self_eq_true,if_true,if_false]
          · simp only [h4,stE n4,krE n4,st7E n4,t3_er n4,bne_of n4,beq_of n4,kpn _ n4,st0,kr0,st70,t3_ok,bind_ok,bind_er,o7,o3,o2,o11,V2_mk,kp0,cond_true,cond_false,Bool.not_true,Bool.not_false,Bool.false_and,Bool.and_false,Bool.true_and,Bool.and_true,bne_self_eq_false,beq_self_eq_true,if_true,if_false]
        · simp only [h3,stE n3,krE n3,st7E n3,t3_er n3,bne_of n3,beq_of n3,kpn _ n3,st0,kr0,st70,t3_ok,bind_ok,bind_er,o7,o3,o2,o11,V2_mk,kp0,cond_true,cond_false,Bool.not_true,Bool.not_false,Bool.false_and,Bool.and_false,Bool.true_and,Bool.and_true,bne_self_eq_false,beq_self_eq_true,if_true,if_false]
      · simp only [h2,stE n2,krE n2,st7E n2,t3_er n2,bne_of n2,beq_of n2,kpn _ n2,st0,kr0,st70,t3_ok,bind_ok,bind_er,o7,o3,o2,o11,V2_mk,kp0,cond_true,cond_false,Bool.not_true,Bool.not_false,Bool.false_and,Bool.and_false,Bool.true_and,Bool.and_true,bne_self_eq_false,beq_self_eq_true,if_true,if_false]
    · simp only [h1,stE n1,krE n1,st7E n1,t3_er n1,bne_of n1,beq_of n1,kpn _ n1,st0,kr0,st70,t3_ok,bind_ok,bind_er,o7,o3,o2,o11,V2_mk,kp0,cond_true,cond_false,Bool.not_true,Bool.not_false,Bool.false_and,Bool.and_false,Bool.true_and,Bool.and_true,bne_self_eq_false,beq_self_eq_true,if_true,if_false]
  · simp only [h0,stE n0,krE n0,st7E n0,t3_er n0,bne_of n0,beq_of n0,kpn _ n0,st0,kr0,st70,t3_ok,bind_ok,bind_er,o7,o3,o2,o11,V2_mk,kp0,cond_true,cond_false,Bool.not_true,Bool.not_false,Bool.false_and,Bool.and_false,Bool.true_and,Bool.and_true,bne_self_eq_false,beq_self_eq_true,if_true,if_false]
theorem direction_Unit.ok:SOK Tryz.prog 36 (direction_Unit.sp direction_Unit):=by
  refine sok_of (E:=⟨[(21,direction_Norm2.sp direction_Norm2),(64,direction_calc_box.sp direction_calc_box),(66,direction_calc_one.sp direction_calc_one_interval_Square direction_calc_one_interval_Sqrt),(69,direction_calc_div.sp direction_calc_div),(81,interval_Sqrt.sp interval_Sqrt)],[],[]⟩) (L:=[]) ⟨(specs_cons direction_Norm2.ok (specs_cons direction_calc_box.ok (specs_cons direction_calc_one.ok (specs_cons direction_calc_div.ok (specs_cons interval_Sqrt.ok specs_nil))))),inl_nil,mixed_ok,lps_nil⟩ 40 Tryz.func36 (by decide) rfl no_loops fun vs bl v bl' h=> ?_
  unfold direction_Unit.sp at h
  split at h
  · rename_i a0_0 a0_1 a0_2 a0_3 a0_4 a0_5
    simp only [Option.some.injEq,Prod.mk.injEq,true_and] at h
    obtain ⟨rfl,rfl⟩:=h
    refine ⟨?_,by simp [okV,Nat.blt],clo_spec 8 _ (by kernel_rfl),told_blk (by kernel_rfl)⟩
    refine (direction_Unit.run direction_Norm2 direction_calc_box direction_calc_one_interval_Square direction_calc_one_interval_Sqrt direction_calc_div interval_Sqrt a0_0 a0_1 a0_2 a0_3 a0_4 a0_5).trans ?_
    refine (direction_Unit.nat direction_Norm2 direction_calc_box direction_calc_one_interval_Square direction_calc_one_interval_Sqrt direction_calc_div interval_Sqrt a0_0 a0_1 a0_2 a0_3 a0_4 a0_5 _).trans ?_
    kernel_rfl
  · cases h
def culetlaw28_DirectionInclusion.K {R:Type} (f_direction_Of:Int→Int→Int→Int→(Int×Int×Int×Int×Int×Int×Int)) (f_direction_Add:Int→Int→Int→Int→Int→Int→Int→Int→Int→Int→Int→Int→(Int×Int×Int×Int×Int×Int×Int)) (f_culetlaw28_theirs:Int→Int→Int→Int→Int→Int→(Int×Int×Int×Int×Int×Int)) (f_direction_Sub:Int→Int→Int→Int→Int→Int→Int→Int→Int→Int→Int→Int→(Int×Int×Int×Int×Int×Int×Int)) (f_direction_Scale:Int→Int→Int→Int→Int→Int→Int→Int→(Int×Int×Int×Int×Int×Int×Int)) (f_direction_Dot:Int→Int→Int→Int→Int→Int→Int→Int→Int→Int→Int→Int→(Int×Int×Int)) (f_direction_Inside:Int→Int→Int→Int→Int→Int→Int→Int→Int→Int→Int→Int→(Bool)) (f_culetref28_Valid:Int→Int→Int→Int→Int→Int→(Bool)) (f_culetlaw28_Part:Int→Int→Int→Int→Int→Int→Int→Int→Int→Int→Int→Int→(Int×Int×Int×Int×Int×Int)) (p_culetlaw28_Part:Int→Int→Int→Int→Int→Int→Int→Int→Int→Int→Int→Int→Bool) (f_direction_Unit:Int→Int→Int→Int→Int→Int→(Int×Int×Int×Int×Int×Int×Int)) (f_culetref27_Inside:Int→Int→Int→Int→(Bool)) (a0_0:Int) (a0_1:Int) (a0_2:Int) (a0_3:Int) (a0_4:Int) (a0_5:Int) (a1_0:Int) (a1_1:Int) (a1_2:Int) (a1_3:Int) (a1_4:Int) (a1_5:Int) (a2_0:Int) (a2_1:Int) (a2_2:Int) (a2_3:Int) (a2_4:Int) (a2_5:Int) (k:(Bool)→Option R):Option R:=
 let t0:=f_culetlaw28_theirs a0_0 a0_1 a0_2 a0_3 a0_4 a0_5
 let t1:=f_culetref28_Valid t0.fst t0.snd.fst t0.snd.snd.fst t0.snd.snd.snd.fst t0.snd.snd.snd.snd.fst t0.snd.snd.snd.snd.snd
 let t2:=f_culetlaw28_theirs a1_0 a1_1 a1_2 a1_3 a1_4 a1_5
 let t3:=f_culetref28_Valid t2.fst t2.snd.fst t2.snd.snd.fst t2.snd.snd.snd.fst t2.snd.snd.snd.snd.fst t2.snd.snd.snd.snd.snd
 bif bif !t1 then true else !t3 then k (true) else
 let t4:=p_culetlaw28_Part a0_0 a0_1 a0_2 a0_3 a0_4 a0_5 a2_0 a2_1 a2_2 a2_3 a2_4 a2_5
 bif t4 then
 let t5:=p_culetlaw28_Part a1_0 a1_1 a1_2 a1_3 a1_4 a1_5 a2_5 a2_4 a2_3 a2_2 a2_1 a2_0
 bif t5 then
 let t6:=f_direction_Add a0_0 a0_1 a0_2 a0_3 a0_4 a0_5 a1_0 a1_1 a1_2 a1_3 a1_4 a1_5
 let t7:=f_culetlaw28_Part a0_0 a0_1 a0_2 a0_3 a0_4 a0_5 a2_0 a2_1 a2_2 a2_3 a2_4 a2_5
 let t8:=f_culetlaw28_Part a1_0 a1_1 a1_2 a1_3 a1_4 a1_5 a2_5 a2_4 a2_3 a2_2 a2_1 a2_0
 let t9:=f_direction_Add t7.fst t7.snd.fst t7.snd.snd.fst t7.snd.snd.snd.fst t7.snd.snd.snd.snd.fst t7.snd.snd.snd.snd.snd t8.fst t8.snd.fst t8.snd.snd.fst t8.snd.snd.snd.fst t8.snd.snd.snd.snd.fst t8.snd.snd.snd.snd.snd
 let t10:=f_direction_Inside t9.fst t9.snd.fst t9.snd.snd.fst t9.snd.snd.snd.fst t9.snd.snd.snd.snd.fst t9.snd.snd.snd.snd.snd.fst t6.fst t6.snd.fst t6.snd.snd.fst t6.snd.snd.snd.fst t6.snd.snd.snd.snd.fst t6.snd.snd.snd.snd.snd.fst
 bif bif t6.snd.snd.snd.snd.snd.snd==0 then bif t9.snd.snd.snd.snd.snd.snd !=0 then true else !t10 else false then k (false) else
 let t11:=f_direction_Sub a0_0 a0_1 a0_2 a0_3 a0_4 a0_5 a1_0 a1_1 a1_2 a1_3 a1_4 a1_5
 let t12:=f_direction_Sub t7.fst t7.snd.fst t7.snd.snd.fst t7.snd.snd.snd.fst t7.snd.snd.snd.snd.fst t7.snd.snd.snd.snd.snd t8.fst t8.snd.fst t8.snd.snd.fst t8.snd.snd.snd.fst t8.snd.snd.snd.snd.fst t8.snd.snd.snd.snd.snd
 let t13:=f_direction_Inside t12.fst t12.snd.fst t12.snd.snd.fst t12.snd.snd.snd.fst t12.snd.snd.snd.snd.fst t12.snd.snd.snd.snd.snd.fst t11.fst t11.snd.fst t11.snd.snd.fst t11.snd.snd.snd.fst t11.snd.snd.snd.snd.fst t11.snd.snd.snd.snd.snd.fst
 bif bif t11.snd.snd.snd.snd.snd.snd==0 then bif t12.snd.snd.snd.snd.snd.snd !=0 then true else !t13 else false then k (false) else
 let t14:=f_direction_Scale a0_0 a0_1 a0_2 a0_3 a0_4 a0_5 a1_0 a1_1
 let t15:=f_direction_Scale t7.fst t7.snd.fst t7.snd.snd.fst t7.snd.snd.snd.fst t7.snd.snd.snd.snd.fst t7.snd.snd.snd.snd.snd t8.fst t8.snd.fst
 let t16:=f_direction_Inside t15.fst t15.snd.fst t15.snd.snd.fst t15.snd.snd.snd.fst t15.snd.snd.snd.snd.fst t15.snd.snd.snd.snd.snd.fst t14.fst t14.snd.fst t14.snd.snd.fst t14.snd.snd.snd.fst t14.snd.snd.snd.snd.fst t14.snd.snd.snd.snd.snd.fst
 bif bif t14.snd.snd.snd.snd.snd.snd==0 then bif t15.snd.snd.snd.snd.snd.snd !=0 then true else !t16 else false then k (false) else
 let t17:=f_direction_Unit a0_0 a0_1 a0_2 a0_3 a0_4 a0_5
 let t18:=f_direction_Unit t7.fst t7.snd.fst t7.snd.snd.fst t7.snd.snd.snd.fst t7.snd.snd.snd.snd.fst t7.snd.snd.snd.snd.snd
 let t19:=f_direction_Inside t18.fst t18.snd.fst t18.snd.snd.fst t18.snd.snd.snd.fst t18.snd.snd.snd.snd.fst t18.snd.snd.snd.snd.snd.fst t17.fst t17.snd.fst t17.snd.snd.fst t17.snd.snd.snd.fst t17.snd.snd.snd.snd.fst t17.snd.snd.snd.snd.snd.fst
 bif bif t17.snd.snd.snd.snd.snd.snd==0 then bif t18.snd.snd.snd.snd.snd.snd !=0 then true else !t19 else false then k (false) else
 let t20:=f_direction_Of a0_0 a0_1 a1_2 a1_3
 let t21:=f_direction_Of t7.fst t7.snd.fst t8.snd.snd.fst t8.snd.snd.snd.fst
 let t22:=f_direction_Inside t21.fst t21.snd.fst t21.snd.snd.fst t21.snd.snd.snd.fst t21.snd.snd.snd.snd.fst t21.snd.snd.snd.snd.snd.fst t20.fst t20.snd.fst t20.snd.snd.fst t20.snd.snd.snd.fst t20.snd.snd.snd.snd.fst t20.snd.snd.snd.snd.snd.fst
 bif bif t20.snd.snd.snd.snd.snd.snd==0 then bif t21.snd.snd.snd.snd.snd.snd !=0 then true else !t22 else false then k (false) else
 let t23:=f_direction_Dot a0_0 a0_1 a0_2 a0_3 a0_4 a0_5 a1_0 a1_1 a1_2 a1_3 a1_4 a1_5
 let t24:=f_direction_Dot t7.fst t7.snd.fst t7.snd.snd.fst t7.snd.snd.snd.fst t7.snd.snd.snd.snd.fst t7.snd.snd.snd.snd.snd t8.fst t8.snd.fst t8.snd.snd.fst t8.snd.snd.snd.fst t8.snd.snd.snd.snd.fst t8.snd.snd.snd.snd.snd
 let t25:=f_culetref27_Inside t24.fst t24.snd.fst t23.fst t23.snd.fst
 k (bif t23.snd.snd !=0 then true else bif t24.snd.snd==0 then t25 else false) else none else none
set_option maxRecDepth 100000 in
theorem culetlaw28_DirectionInclusion.run (f_direction_Of:Int→Int→Int→Int→(Int×Int×Int×Int×Int×Int×Int)) (f_direction_Add:Int→Int→Int→Int→Int→Int→Int→Int→Int→Int→Int→Int→(Int×Int×Int×Int×Int×Int×Int)) (f_culetlaw28_theirs:Int→Int→Int→Int→Int→Int→(Int×Int×Int×Int×Int×Int)) (f_direction_Sub:Int→Int→Int→Int→Int→Int→Int→Int→Int→Int→Int→Int→(Int×Int×Int×Int×Int×Int×Int)) (f_direction_Scale:Int→Int→Int→Int→Int→Int→Int→Int→(Int×Int×Int×Int×Int×Int×Int)) (f_direction_Dot:Int→Int→Int→Int→Int→Int→Int→Int→Int→Int→Int→Int→(Int×Int×Int)) (f_direction_Inside:Int→Int→Int→Int→Int→Int→Int→Int→Int→Int→Int→Int→(Bool)) (f_culetref28_Valid:Int→Int→Int→Int→Int→Int→(Bool)) (f_culetlaw28_Part:Int→Int→Int→Int→Int→Int→Int→Int→Int→Int→Int→Int→(Int×Int×Int×Int×Int×Int)) (p_culetlaw28_Part:Int→Int→Int→Int→Int→Int→Int→Int→Int→Int→Int→Int→Bool) (f_direction_Unit:Int→Int→Int→Int→Int→Int→(Int×Int×Int×Int×Int×Int×Int)) (f_culetref27_Inside:Int→Int→Int→Int→(Bool)) (a0_0:Int) (a0_1:Int) (a0_2:Int) (a0_3:Int) (a0_4:Int) (a0_5:Int) (a1_0:Int) (a1_1:Int) (a1_2:Int) (a1_3:Int) (a1_4:Int) (a1_5:Int) (a2_0:Int) (a2_1:Int) (a2_2:Int) (a2_3:Int) (a2_4:Int) (a2_5:Int):xfn Tryz.prog ⟨[(10,culetlaw28_awake.sp),(10,culetlaw28_awake.sp),(20,direction_Of.sp f_direction_Of),(23,direction_Add.sp f_direction_Add),(25,culetlaw28_theirs.sp f_culetlaw28_theirs),(26,direction_Sub.sp f_direction_Sub),(28,direction_Scale.sp f_direction_Scale),(30,direction_Dot.sp f_direction_Dot),(32,direction_Inside.sp f_direction_Inside),(34,culetref28_Valid.sp f_culetref28_Valid),(35,culetlaw28_Part.sp f_culetlaw28_Part p_culetlaw28_Part),(36,direction_Unit.sp f_direction_Unit),(37,culetref27_Inside.sp f_culetref27_Inside)],[],[]⟩ [] 40 Tryz.f6 [.agg ⟨[.int .i64 a0_0,.int .i64 a0_1,.int .i64 a0_2,.int .i64 a0_3,.int .i64 a0_4,.int .i64 a0_5]⟩,.agg ⟨[.int .i64 a1_0,.int .i64 a1_1,.int .i64 a1_2,.int .i64 a1_3,.int .i64 a1_4,.int .i64 a1_5]⟩,.agg ⟨[.int .u32 a2_0,.int .u32 a2_1,.int .u32 a2_2,.int .u32 a2_3,.int .u32 a2_4,.int .u32 a2_5]⟩] []=culetlaw28_DirectionInclusion.K f_direction_Of f_direction_Add f_culetlaw28_theirs f_direction_Sub f_direction_Scale f_direction_Dot f_direction_Inside f_culetref28_Valid f_culetlaw28_Part p_culetlaw28_Part f_direction_Unit f_culetref27_Inside a0_0 a0_1 a0_2 a0_3 a0_4 a0_5 a1_0 a1_1 a1_2 a1_3 a1_4 a1_5 a2_0 a2_1 a2_2 a2_3 a2_4 a2_5 (fun r=>some (.bool r,[])):=by kernel_rfl
def culetlaw28_DirectionInclusion.o (a0_0:Int) (a0_1:Int) (a0_2:Int) (a0_3:Int) (a0_4:Int) (a0_5:Int) (a1_0:Int) (a1_1:Int) (a1_2:Int) (a1_3:Int) (a1_4:Int) (a1_5:Int) (a2_0:Int) (a2_1:Int) (a2_2:Int) (a2_3:Int) (a2_4:Int) (a2_5:Int):Option (Bool):=culetlaw28_DirectionInclusion.K direction_Of direction_Add culetlaw28_theirs direction_Sub direction_Scale direction_Dot direction_Inside culetref28_Valid culetlaw28_Part culetlaw28_Part.pre direction_Unit culetref27_Inside a0_0 a0_1 a0_2 a0_3 a0_4 a0_5 a1_0 a1_1 a1_2 a1_3 a1_4 a1_5 a2_0 a2_1 a2_2 a2_3 a2_4 a2_5 some
def culetlaw28_DirectionInclusion.pre (a0_0:Int) (a0_1:Int) (a0_2:Int) (a0_3:Int) (a0_4:Int) (a0_5:Int) (a1_0:Int) (a1_1:Int) (a1_2:Int) (a1_3:Int) (a1_4:Int) (a1_5:Int) (a2_0:Int) (a2_1:Int) (a2_2:Int) (a2_3:Int) (a2_4:Int) (a2_5:Int):Bool:=(culetlaw28_DirectionInclusion.o a0_0 a0_1 a0_2 a0_3 a0_4 a0_5 a1_0 a1_1 a1_2 a1_3 a1_4 a1_5 a2_0 a2_1 a2_2 a2_3 a2_4 a2_5).isSome
def culetlaw28_DirectionInclusion (a0_0:Int) (a0_1:Int) (a0_2:Int) (a0_3:Int) (a0_4:Int) (a0_5:Int) (a1_0:Int) (a1_1:Int) (a1_2:Int) (a1_3:Int) (a1_4:Int) (a1_5:Int) (a2_0:Int) (a2_1:Int) (a2_2:Int) (a2_3:Int) (a2_4:Int) (a2_5:Int):Bool:=(culetlaw28_DirectionInclusion.o a0_0 a0_1 a0_2 a0_3 a0_4 a0_5 a1_0 a1_1 a1_2 a1_3 a1_4 a1_5 a2_0 a2_1 a2_2 a2_3 a2_4 a2_5).getD default
theorem culetlaw28_DirectionInclusion.nat {R:Type} (f_direction_Of:Int→Int→Int→Int→(Int×Int×Int×Int×Int×Int×Int)) (f_direction_Add:Int→Int→Int→Int→Int→Int→Int→Int→Int→Int→Int→Int→(Int×Int×Int×Int×Int×Int×Int)) (f_culetlaw28_theirs:Int→Int→Int→Int→Int→Int→(Int×Int×Int×Int×Int×Int)) (f_direction_Sub:Int→Int→Int→Int→Int→Int→Int→Int→Int→Int→Int→Int→(Int×Int×Int×Int×Int×Int×Int)) (f_direction_Scale:Int→Int→Int→Int→Int→Int→Int→Int→(Int×Int×Int×Int×Int×Int×Int)) (f_direction_Dot:Int→Int→Int→Int→Int→Int→Int→Int→Int→Int→Int→Int→(Int×Int×Int)) (f_direction_Inside:Int→Int→Int→Int→Int→Int→Int→Int→Int→Int→Int→Int→(Bool)) (f_culetref28_Valid:Int→Int→Int→Int→Int→Int→(Bool)) (f_culetlaw28_Part:Int→Int→Int→Int→Int→Int→Int→Int→Int→Int→Int→Int→(Int×Int×Int×Int×Int×Int)) (p_culetlaw28_Part:Int→Int→Int→Int→Int→Int→Int→Int→Int→Int→Int→Int→Bool) (f_direction_Unit:Int→Int→Int→Int→Int→Int→(Int×Int×Int×Int×Int×Int×Int)) (f_culetref27_Inside:Int→Int→Int→Int→(Bool)) (a0_0:Int) (a0_1:Int) (a0_2:Int) (a0_3:Int) (a0_4:Int) (a0_5:Int) (a1_0:Int) (a1_1:Int) (a1_2:Int) (a1_3:Int) (a1_4:Int) (a1_5:Int) (a2_0:Int) (a2_1:Int) (a2_2:Int) (a2_3:Int) (a2_4:Int) (a2_5:Int) (k:(Bool)→Option R):culetlaw28_DirectionInclusion.K f_direction_Of f_direction_Add f_culetlaw28_theirs f_direction_Sub f_direction_Scale f_direction_Dot f_direction_Inside f_culetref28_Valid f_culetlaw28_Part p_culetlaw28_Part f_direction_Unit f_culetref27_Inside a0_0 a0_1 a0_2 a0_3 a0_4 a0_5 a1_0 a1_1 a1_2 a1_3 a1_4 a1_5 a2_0 a2_1 a2_2 a2_3 a2_4 a2_5 k=(culetlaw28_DirectionInclusion.K f_direction_Of f_direction_Add f_culetlaw28_theirs f_direction_Sub f_direction_Scale f_direction_Dot f_direction_Inside f_culetref28_Valid f_culetlaw28_Part p_culetlaw28_Part f_direction_Unit f_culetref27_Inside a0_0 a0_1 a0_2 a0_3 a0_4 a0_5 a1_0 a1_1 a1_2 a1_3 a1_4 a1_5 a2_0 a2_1 a2_2 a2_3 a2_4 a2_5 some).bind k:=by
  simp only [culetlaw28_DirectionInclusion.K,bcond,Option.bind_some,Option.bind_none]
theorem inc7 {r R:Re Bx} (h:Inc SB r R) (hn:Nz R):(bif (o7 R).2.2.2.2.2.2==0 then (bif (o7 r).2.2.2.2.2.2 !=0 then true else !direction_Inside (o7 r).1 (o7 r).2.1 (o7 r).2.2.1 (o7 r).2.2.2.1 (o7 r).2.2.2.2.1 (o7 r).2.2.2.2.2.1 (o7 R).1 (o7 R).2.1 (o7 R).2.2.1 (o7 R).2.2.2.1 (o7 R).2.2.2.2.1 (o7 R).2.2.2.2.2.1) else false)=false:=by
  rcases hn.cases with ⟨A,e⟩|⟨e,he,e'⟩
  · obtain ⟨a,e1,h1⟩:=h A e
    subst e e1
    have:=direction_Inside.of (S2.inb (x:=a.1.1) (y:=a.1.2) h1.1) (S2.inb (x:=a.2.1.1) (y:=a.2.1.2) h1.2.1) (S2.inb (x:=a.2.2.1) (y:=a.2.2.2) h1.2.2)
    simp only [o7,beq_self_eq_true,bne_self_eq_false,cond_true,cond_false,this,Bool.not_true]
  · subst e'
    simp only [o7,beq_of he,cond_false]
theorem u32_has {k:Int} (h:IntKind.u32.has k):0≤k∧k≤4294967295:=by
  unfold IntKind.has at h
  simp [IntKind.signed,IntKind.bits,IntKind.min,IntKind.max] at h
  omega
theorem DirectionInclusion.law (a0 a1 a2 a3 a4 a5 b0 b1 b2 b3 b4 b5 k0 k1 k2 k3 k4 k5:Int) (h0:IntKind.u32.has k0) (h1:IntKind.u32.has k1) (h2:IntKind.u32.has k2) (h3:IntKind.u32.has k3) (h4:IntKind.u32.has k4) (h5:IntKind.u32.has k5):culetlaw28_DirectionInclusion.o a0 a1 a2 a3 a4 a5 b0 b1 b2 b3 b4 b5 k0 k1 k2 k3 k4 k5=some true:=by
  have h0:=u32_has h0
  have h1:=u32_has h1
  have h2:=u32_has h2
  have h3:=u32_has h3
  have h4:=u32_has h4
  have h5:=u32_has h5
  simp only [culetlaw28_DirectionInclusion.o,culetlaw28_DirectionInclusion.K,theirs_eq,culetref28_Valid.eq]
  cases hA:VB ((a0,a1),(a2,a3),(a4,a5)) with
  |false=>rfl
  |true=>
  cases hB:VB ((b0,b1),(b2,b3),(b4,b5)) with
  |false=>rfl
  |true=>
  obtain ⟨p1,i1⟩:=culetlaw28_Part.in hA h0 h1 h2 h3 h4 h5
  obtain ⟨p2,i2⟩:=culetlaw28_Part.in hB h5 h4 h3 h2 h1 h0
  simp only [p1,p2,cond_true,cond_false,Bool.not_true]
  generalize culetlaw28_Part a0 a1 a2 a3 a4 a5 k0 k1 k2 k3 k4 k5=x at*
  generalize culetlaw28_Part b0 b1 b2 b3 b4 b5 k5 k4 k3 k2 k1 k0=y at*
  simp only [direction_Add.eq,direction_Sub.eq,direction_Scale.eq,direction_Unit.eq,direction_Of.eq,direction_Dot.eq]
  simp only [bxv] at i1 i2
  rw [inc7 (dadd_inc i1 i2) (dadd_nz _ _),inc7 (dsub_inc i1 i2) (dsub_nz _ _),inc7 (dscale_inc i1 i2.1) (dscale_nz _ _),inc7 (dunit_inc i1) (dunit_nz _),inc7 (dof_inc i1.1 i2.2.1) (dof_nz _ _)]
  simp only [cond_false]
  rcases (ddot_nz ((a0,a1),(a2,a3),(a4,a5)) ((b0,b1),(b2,b3),(b4,b5))).cases with ⟨A,e⟩|⟨e,he,e'⟩
  · obtain ⟨a,e1,h1⟩:=ddot_inc i1 i2 A e
    rw [e,e1]
    have:=culetref27_Inside.of (S2.inb (x:=a.1) (y:=a.2) (X:=A.1) (Y:=A.2) h1)
    simp only [o3,beq_self_eq_true,bne_self_eq_false,cond_true,cond_false,this]
  · rw [e']
    simp only [o3,bne_of he,cond_true]
theorem culetlaw28_DirectionInclusion.calls (a0_0:Int) (a0_1:Int) (a0_2:Int) (a0_3:Int) (a0_4:Int) (a0_5:Int) (a1_0:Int) (a1_1:Int) (a1_2:Int) (a1_3:Int) (a1_4:Int) (a1_5:Int) (a2_0:Int) (a2_1:Int) (a2_2:Int) (a2_3:Int) (a2_4:Int) (a2_5:Int) (h:culetlaw28_DirectionInclusion.o a0_0 a0_1 a0_2 a0_3 a0_4 a0_5 a1_0 a1_1 a1_2 a1_3 a1_4 a1_5 a2_0 a2_1 a2_2 a2_3 a2_4 a2_5=some true) (w:World) (ht:TabOk w):Calls Tryz.prog 6 ⟨[.agg ⟨[.int .i64 a0_0,.int .i64 a0_1,.int .i64 a0_2,.int .i64 a0_3,.int .i64 a0_4,.int .i64 a0_5]⟩,.agg ⟨[.int .i64 a1_0,.int .i64 a1_1,.int .i64 a1_2,.int .i64 a1_3,.int .i64 a1_4,.int .i64 a1_5]⟩,.agg ⟨[.int .u32 a2_0,.int .u32 a2_1,.int .u32 a2_2,.int .u32 a2_3,.int .u32 a2_4,.int .u32 a2_5]⟩]⟩ w fun e w'=>e= .returned (.bool true)∧Below w.heap.size w w':=by
  refine calls_run (E:=⟨[(10,culetlaw28_awake.sp),(10,culetlaw28_awake.sp),(20,direction_Of.sp direction_Of),(23,direction_Add.sp direction_Add),(25,culetlaw28_theirs.sp culetlaw28_theirs),(26,direction_Sub.sp direction_Sub),(28,direction_Scale.sp direction_Scale),(30,direction_Dot.sp direction_Dot),(32,direction_Inside.sp direction_Inside),(34,culetref28_Valid.sp culetref28_Valid),(35,culetlaw28_Part.sp culetlaw28_Part culetlaw28_Part.pre),(36,direction_Unit.sp direction_Unit),(37,culetref27_Inside.sp culetref27_Inside)],[],[]⟩) (L:=[]) ⟨(specs_cons culetlaw28_awake.ok (specs_cons culetlaw28_awake.ok (specs_cons direction_Of.ok (specs_cons direction_Add.ok (specs_cons culetlaw28_theirs.ok (specs_cons direction_Sub.ok (specs_cons direction_Scale.ok (specs_cons direction_Dot.ok (specs_cons direction_Inside.ok (specs_cons culetref28_Valid.ok (specs_cons culetlaw28_Part.ok (specs_cons direction_Unit.ok (specs_cons culetref27_Inside.ok specs_nil))))))))))))),inl_nil,mixed_ok,lps_nil⟩ 40 Tryz.func6 (by decide) rfl no_loops (vs:=[.agg ⟨[.int .i64 a0_0,.int .i64 a0_1,.int .i64 a0_2,.int .i64 a0_3,.int .i64 a0_4,.int .i64 a0_5]⟩,.agg ⟨[.int .i64 a1_0,.int .i64 a1_1,.int .i64 a1_2,.int .i64 a1_3,.int .i64 a1_4,.int .i64 a1_5]⟩,.agg ⟨[.int .u32 a2_0,.int .u32 a2_1,.int .u32 a2_2,.int .u32 a2_3,.int .u32 a2_4,.int .u32 a2_5]⟩]) (v:= .bool true) ?_ (by simp [okV,Nat.blt]) (clo_spec 8 _ rfl) w ht
  refine (culetlaw28_DirectionInclusion.run direction_Of direction_Add culetlaw28_theirs direction_Sub direction_Scale direction_Dot direction_Inside culetref28_Valid culetlaw28_Part culetlaw28_Part.pre direction_Unit culetref27_Inside a0_0 a0_1 a0_2 a0_3 a0_4 a0_5 a1_0 a1_1 a1_2 a1_3 a1_4 a1_5 a2_0 a2_1 a2_2 a2_3 a2_4 a2_5).trans ?_
  rw [culetlaw28_DirectionInclusion.nat]
  have h4:culetlaw28_DirectionInclusion.K direction_Of direction_Add culetlaw28_theirs direction_Sub direction_Scale direction_Dot direction_Inside culetref28_Valid culetlaw28_Part culetlaw28_Part.pre direction_Unit culetref27_Inside a0_0 a0_1 a0_2 a0_3 a0_4 a0_5 a1_0 a1_1 a1_2 a1_3 a1_4 a1_5 a2_0 a2_1 a2_2 a2_3 a2_4 a2_5 some=some true:=h
  rw [h4]
  rfl
end Go.Proofs.YtpejalpgficopaaGreatDoor.G
end
section
namespace RX
open Go Go.RowKit
theorem okWide_agg {P:Program} {w:World} {r:Reach} {b:Nat} {t:TypeId} {v:Value} {ts:List TypeId} (hu:(match P.underlying t with|some (.struct _)=>true|some (.array _ _)=>true|_=>false)=true) (hc:P.cellTypes P.depth t=some ts) (hn:P.cellsOf t=ts.length) (h:Value.okWide P w r b t v):
    ∃l:List Value,v= .agg ⟨l⟩∧l.length=ts.length∧∀(i:Nat) (x:Value) (u:TypeId),l[i]? =some x→ts[i]? =some u→Cell.okWide P w r b u x:=by
  have key:∃cs,v= .agg cs∧cs.size=P.cellsOf t∧Row.okWide P w r b t cs:=by
    unfold Value.okWide at h
    split at h
    · exact h
    · exact h
    · rename_i h1 h2
      split at hu
      · rename_i hs; exact absurd hs (h1 _)
      · rename_i hs; exact absurd hs (h2 _ _)
      · cases hu
  obtain ⟨cs,rfl,hsz,ts',hts,_,hcell⟩:=key
  rw [hc] at hts
  injection hts with hts
  subst hts
  refine ⟨cs.toList,rfl,by simp [hsz,hn],fun i x u hx hu'=> ?_⟩
  have hx':cs[i]? =some x:=by simpa using hx
  obtain ⟨u',e,hk⟩:=hcell i x hx'
  have hlt:i<ts.length:=(List.getElem?_eq_some_iff.1 hu').1
  rw [Nat.mod_eq_of_lt hlt,hu'] at e
  injection e with e
  subst e
  exact hk
theorem len_succ {α:Type} {l:List α} {n:Nat} (h:l.length=n+1):∃x l',l=x::l'∧l'.length=n:=by
  cases l with
  |nil=>simp at h
  |cons x l'=>exact ⟨x,l',rfl,by simpa using h⟩
theorem len_zero {α:Type} {l:List α} (h:l.length=0):l=[]:=List.length_eq_zero_iff.1 h
theorem cell_int {P:Program} {w:World} {r:Reach} {b:Nat} {u:TypeId} {k:IntKind} {x:Value} (hu:P.underlying u=some (.int k)) (h:Cell.okWide P w r b u x):∃n,x= .int k n∧k.has n:=by
  unfold Cell.okWide at h
  rw [hu] at h
  cases x<;>simp [Cell.ok,hu] at h
  obtain ⟨rfl,h⟩:=h
  exact ⟨_,rfl,h⟩
theorem trod_lt {H:Type} {enc:TypeId×Value→H} {P:Program} {w:World} {spare:Nat→Bool} {held:Bool} {t:TypeId} {v:Value} {d:DataW H} {ps:List MemPlace} (h:DataW.Trod enc P w 0 spare held t v d ps):∀x∈ps,x.block<w.heap.size:=by
  obtain ⟨m,hm⟩:=h
  exact DataW.trod_lt m _ _ _ hm
end RX
end
