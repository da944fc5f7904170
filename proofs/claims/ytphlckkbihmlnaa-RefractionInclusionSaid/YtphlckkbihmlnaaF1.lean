/- The functions, their runs and their contracts. WRITTEN BY gen.py of this repo. -/
import Derived.Test.YtphlckkbihmlnaaS
import Derived.Test.YtphlckkbihmlnaaM
import Derived.Test.YtphlckkbihmlnaaIv
import Derived.Test.YtphlckkbihmlnaaRf
import Derived.Test.YtphlckkbihmlnaaF0
import Derived.Test.YtphlckkbihmlnaaExt
import Derived.Test.YtphlckkbihmlnaaRoot
namespace Go.Proofs.Ytphlckkbihmlnaa.G
open Go Go.Proofs Go.RowKit RX
set_option linter.unusedVariables false
set_option linter.unusedSimpArgs false
/-! ### (*culet/refraction.calc).scale (38) -/
def refraction_calc_scale.K {R : Type} (f_direction_Scale : Int → Int → Int → Int → Int → Int → Int → Int → (Int × Int × Int × Int × Int × Int × Int)) (s0_0 : Int) (a1_0 : Int) (a1_1 : Int) (a1_2 : Int) (a1_3 : Int) (a1_4 : Int) (a1_5 : Int) (a2_0 : Int) (a2_1 : Int) (k : Int × Int × Int × Int × Int × Int × Int → R) : R :=
  bif s0_0 != 0 then
    k (a1_0, a1_1, a1_2, a1_3, a1_4, a1_5, s0_0)
  else
    let t0 := f_direction_Scale a1_0 a1_1 a1_2 a1_3 a1_4 a1_5 a2_0 a2_1
    k (t0.fst, t0.snd.fst, t0.snd.snd.fst, t0.snd.snd.snd.fst, t0.snd.snd.snd.snd.fst, t0.snd.snd.snd.snd.snd.fst, t0.snd.snd.snd.snd.snd.snd)
set_option maxRecDepth 100000 in
theorem refraction_calc_scale.run (f_direction_Scale : Int → Int → Int → Int → Int → Int → Int → Int → (Int × Int × Int × Int × Int × Int × Int)) (s0_0 : Int) (a1_0 : Int) (a1_1 : Int) (a1_2 : Int) (a1_3 : Int) (a1_4 : Int) (a1_5 : Int) (a2_0 : Int) (a2_1 : Int) : xfn Try.prog ⟨[(71, direction_Scale.sp f_direction_Scale)], []⟩ [] 40 Try.f38 [.pointer (some ⟨0, 0, none⟩), .agg ⟨[.int .i64 a1_0, .int .i64 a1_1, .int .i64 a1_2, .int .i64 a1_3, .int .i64 a1_4, .int .i64 a1_5]⟩, .agg ⟨[.int .i64 a2_0, .int .i64 a2_1]⟩] [.cs [.int .i64 s0_0] 63] = refraction_calc_scale.K f_direction_Scale s0_0 a1_0 a1_1 a1_2 a1_3 a1_4 a1_5 a2_0 a2_1 (fun r => some (.agg ⟨[.int .i64 r.1, .int .i64 r.2.1, .int .i64 r.2.2.1, .int .i64 r.2.2.2.1, .int .i64 r.2.2.2.2.1, .int .i64 r.2.2.2.2.2.1]⟩, [.cs [.int .i64 r.2.2.2.2.2.2] 63])) := by kernel_rfl
def refraction_calc_scale (s0_0 : Int) (a1_0 : Int) (a1_1 : Int) (a1_2 : Int) (a1_3 : Int) (a1_4 : Int) (a1_5 : Int) (a2_0 : Int) (a2_1 : Int) : Int × Int × Int × Int × Int × Int × Int := refraction_calc_scale.K direction_Scale s0_0 a1_0 a1_1 a1_2 a1_3 a1_4 a1_5 a2_0 a2_1 id
theorem refraction_calc_scale.nat {R : Type} (f_direction_Scale : Int → Int → Int → Int → Int → Int → Int → Int → (Int × Int × Int × Int × Int × Int × Int)) (s0_0 : Int) (a1_0 : Int) (a1_1 : Int) (a1_2 : Int) (a1_3 : Int) (a1_4 : Int) (a1_5 : Int) (a2_0 : Int) (a2_1 : Int) (k : Int × Int × Int × Int × Int × Int × Int → R) : refraction_calc_scale.K f_direction_Scale s0_0 a1_0 a1_1 a1_2 a1_3 a1_4 a1_5 a2_0 a2_1 k = k (refraction_calc_scale.K f_direction_Scale s0_0 a1_0 a1_1 a1_2 a1_3 a1_4 a1_5 a2_0 a2_1 id) := by
  simp only [refraction_calc_scale.K, acond k, id_eq]
theorem refraction_calc_scale.eq (s a0 a1 a2 a3 a4 a5 r0 r1 : Int) : refraction_calc_scale s a0 a1 a2 a3 a4 a5 r0 r1 = st7 s ((a0, a1), (a2, a3), (a4, a5)) (dscale ((a0, a1), (a2, a3), (a4, a5)) (r0, r1)) := by
  simp only [refraction_calc_scale, refraction_calc_scale.K, id_eq, direction_Scale.eq, st7]
theorem refraction_calc_scale.ok : SOK Try.prog 38 (refraction_calc_scale.sp refraction_calc_scale) := by
  refine sok_of (E := ⟨[(71, direction_Scale.sp direction_Scale)], []⟩) ⟨(specs_cons direction_Scale.ok specs_nil), inl_nil, mixed_ok⟩ 40 Try.func38 (by decide) rfl no_loops fun vs bl v bl' h => ?_
  unfold refraction_calc_scale.sp at h
  split at h
  · rename_i a1_0 a1_1 a1_2 a1_3 a1_4 a1_5 a2_0 a2_1 s0_0
    simp only [Option.some.injEq, Prod.mk.injEq, true_and] at h
    obtain ⟨rfl, rfl⟩ := h
    refine ⟨?_, by simp [okV, Nat.blt], clo_spec 8 _ (by kernel_rfl), told_blk (by kernel_rfl)⟩
    refine (refraction_calc_scale.run direction_Scale s0_0 a1_0 a1_1 a1_2 a1_3 a1_4 a1_5 a2_0 a2_1).trans ?_
    refine (refraction_calc_scale.nat direction_Scale s0_0 a1_0 a1_1 a1_2 a1_3 a1_4 a1_5 a2_0 a2_1 _).trans ?_
    kernel_rfl
  · cases h

/-! ### culet/direction.Add (76) -/
def direction_Add.K {R : Type} (f_direction_Valid : Int → Int → Int → Int → Int → Int → (Bool)) (f_direction_calc_add : Int → Int → Int → Int → Int → (Int × Int × Int)) (f_direction_calc_box : Int → Int → Int → Int → Int → Int → Int → (Int × Int × Int × Int × Int × Int × Int × Int)) (a0_0 : Int) (a0_1 : Int) (a0_2 : Int) (a0_3 : Int) (a0_4 : Int) (a0_5 : Int) (a1_0 : Int) (a1_1 : Int) (a1_2 : Int) (a1_3 : Int) (a1_4 : Int) (a1_5 : Int) (k : Int × Int × Int × Int × Int × Int × Int → R) : R :=
  let t0 := f_direction_Valid a0_0 a0_1 a0_2 a0_3 a0_4 a0_5
  bif !t0 then
    k (0, 0, 0, 0, 0, 0, 1)
  else
    let t1 := f_direction_Valid a1_0 a1_1 a1_2 a1_3 a1_4 a1_5
    bif !t1 then
      k (0, 0, 0, 0, 0, 0, 1)
    else
      let t2 := f_direction_calc_add 0 a0_0 a0_1 a1_0 a1_1
      let t3 := f_direction_calc_add t2.snd.snd a0_2 a0_3 a1_2 a1_3
      let t4 := f_direction_calc_add t3.snd.snd a0_4 a0_5 a1_4 a1_5
      let t5 := f_direction_calc_box t4.snd.snd t2.fst t2.snd.fst t3.fst t3.snd.fst t4.fst t4.snd.fst
      k (t5.fst, t5.snd.fst, t5.snd.snd.fst, t5.snd.snd.snd.fst, t5.snd.snd.snd.snd.fst, t5.snd.snd.snd.snd.snd.fst, t5.snd.snd.snd.snd.snd.snd.fst)
set_option maxRecDepth 100000 in
theorem direction_Add.run (f_direction_Valid : Int → Int → Int → Int → Int → Int → (Bool)) (f_direction_calc_add : Int → Int → Int → Int → Int → (Int × Int × Int)) (f_direction_calc_box : Int → Int → Int → Int → Int → Int → Int → (Int × Int × Int × Int × Int × Int × Int × Int)) (a0_0 : Int) (a0_1 : Int) (a0_2 : Int) (a0_3 : Int) (a0_4 : Int) (a0_5 : Int) (a1_0 : Int) (a1_1 : Int) (a1_2 : Int) (a1_3 : Int) (a1_4 : Int) (a1_5 : Int) : xfn Try.prog ⟨[(65, direction_Valid.sp f_direction_Valid), (68, direction_calc_add.sp f_direction_calc_add), (90, direction_calc_box.sp f_direction_calc_box)], []⟩ [] 40 Try.f76 [.agg ⟨[.int .i64 a0_0, .int .i64 a0_1, .int .i64 a0_2, .int .i64 a0_3, .int .i64 a0_4, .int .i64 a0_5]⟩, .agg ⟨[.int .i64 a1_0, .int .i64 a1_1, .int .i64 a1_2, .int .i64 a1_3, .int .i64 a1_4, .int .i64 a1_5]⟩] [] = direction_Add.K f_direction_Valid f_direction_calc_add f_direction_calc_box a0_0 a0_1 a0_2 a0_3 a0_4 a0_5 a1_0 a1_1 a1_2 a1_3 a1_4 a1_5 (fun r => some (.tuple ⟨[.agg ⟨[.int .i64 r.1, .int .i64 r.2.1, .int .i64 r.2.2.1, .int .i64 r.2.2.2.1, .int .i64 r.2.2.2.2.1, .int .i64 r.2.2.2.2.2.1]⟩, .int .i64 r.2.2.2.2.2.2]⟩, [])) := by kernel_rfl
def direction_Add (a0_0 : Int) (a0_1 : Int) (a0_2 : Int) (a0_3 : Int) (a0_4 : Int) (a0_5 : Int) (a1_0 : Int) (a1_1 : Int) (a1_2 : Int) (a1_3 : Int) (a1_4 : Int) (a1_5 : Int) : Int × Int × Int × Int × Int × Int × Int := direction_Add.K direction_Valid direction_calc_add direction_calc_box a0_0 a0_1 a0_2 a0_3 a0_4 a0_5 a1_0 a1_1 a1_2 a1_3 a1_4 a1_5 id
theorem direction_Add.nat {R : Type} (f_direction_Valid : Int → Int → Int → Int → Int → Int → (Bool)) (f_direction_calc_add : Int → Int → Int → Int → Int → (Int × Int × Int)) (f_direction_calc_box : Int → Int → Int → Int → Int → Int → Int → (Int × Int × Int × Int × Int × Int × Int × Int)) (a0_0 : Int) (a0_1 : Int) (a0_2 : Int) (a0_3 : Int) (a0_4 : Int) (a0_5 : Int) (a1_0 : Int) (a1_1 : Int) (a1_2 : Int) (a1_3 : Int) (a1_4 : Int) (a1_5 : Int) (k : Int × Int × Int × Int × Int × Int × Int → R) : direction_Add.K f_direction_Valid f_direction_calc_add f_direction_calc_box a0_0 a0_1 a0_2 a0_3 a0_4 a0_5 a1_0 a1_1 a1_2 a1_3 a1_4 a1_5 k = k (direction_Add.K f_direction_Valid f_direction_calc_add f_direction_calc_box a0_0 a0_1 a0_2 a0_3 a0_4 a0_5 a1_0 a1_1 a1_2 a1_3 a1_4 a1_5 id) := by
  simp only [direction_Add.K, acond k, id_eq]
theorem direction_Add.eq (a0 a1 a2 a3 a4 a5 b0 b1 b2 b3 b4 b5 : Int) : direction_Add a0 a1 a2 a3 a4 a5 b0 b1 b2 b3 b4 b5 = o7 (dadd ((a0, a1), (a2, a3), (a4, a5)) ((b0, b1), (b2, b3), (b4, b5))) := by
  simp only [direction_Add, direction_Add.K, id_eq, direction_Valid.eq, direction_calc_add.eq, direction_calc_box, direction_calc_box.K, id_eq, dadd, dzip, addR]
  cases hV0 : VB ((a0, a1), (a2, a3), (a4, a5)) with
  | false =>
    simp only [hV0, st0, kr0, st70, t3_ok, bind_ok, bind_er, o7, o3, o2, o11, V2_mk, kp0, cond_true, cond_false, Bool.not_true, Bool.not_false, Bool.false_and, Bool.and_false, Bool.true_and, Bool.and_true, bne_self_eq_false, beq_self_eq_true, if_true, if_false]
  | true =>
    cases hV1 : VB ((b0, b1), (b2, b3), (b4, b5)) with
    | false =>
      simp only [hV0, hV1, st0, kr0, st70, t3_ok, bind_ok, bind_er, o7, o3, o2, o11, V2_mk, kp0, cond_true, cond_false, Bool.not_true, Bool.not_false, Bool.false_and, Bool.and_false, Bool.true_and, Bool.and_true, bne_self_eq_false, beq_self_eq_true, if_true, if_false]
    | true =>
      rcases t3c (iadd a0 a1 b0 b1) with ⟨x0, x1, h0⟩ | ⟨x0, x1, e0, n0, h0⟩
      · simp only [hV0, hV1, h0, st0, kr0, st70, t3_ok, bind_ok, bind_er, o7, o3, o2, o11, V2_mk, kp0, cond_true, cond_false, Bool.not_true, Bool.not_false, Bool.false_and, Bool.and_false, Bool.true_and, Bool.and_true, bne_self_eq_false, beq_self_eq_true, if_true, if_false]
        rcases t3c (iadd a2 a3 b2 b3) with ⟨y0, y1, h1⟩ | ⟨y0, y1, e1, n1, h1⟩
        · simp only [h1, st0, kr0, st70, t3_ok, bind_ok, bind_er, o7, o3, o2, o11, V2_mk, kp0, cond_true, cond_false, Bool.not_true, Bool.not_false, Bool.false_and, Bool.and_false, Bool.true_and, Bool.and_true, bne_self_eq_false, beq_self_eq_true, if_true, if_false]
          rcases t3c (iadd a4 a5 b4 b5) with ⟨z0, z1, h2⟩ | ⟨z0, z1, e2, n2, h2⟩
          · simp only [h2, st0, kr0, st70, t3_ok, bind_ok, bind_er, o7, o3, o2, o11, V2_mk, kp0, cond_true, cond_false, Bool.not_true, Bool.not_false, Bool.false_and, Bool.and_false, Bool.true_and, Bool.and_true, bne_self_eq_false, beq_self_eq_true, if_true, if_false]
          · simp only [h2, stE n2, krE n2, st7E n2, t3_er n2, bne_of n2, beq_of n2, kpn _ n2, st0, kr0, st70, t3_ok, bind_ok, bind_er, o7, o3, o2, o11, V2_mk, kp0, cond_true, cond_false, Bool.not_true, Bool.not_false, Bool.false_and, Bool.and_false, Bool.true_and, Bool.and_true, bne_self_eq_false, beq_self_eq_true, if_true, if_false]
        · simp only [h1, stE n1, krE n1, st7E n1, t3_er n1, bne_of n1, beq_of n1, kpn _ n1, st0, kr0, st70, t3_ok, bind_ok, bind_er, o7, o3, o2, o11, V2_mk, kp0, cond_true, cond_false, Bool.not_true, Bool.not_false, Bool.false_and, Bool.and_false, Bool.true_and, Bool.and_true, bne_self_eq_false, beq_self_eq_true, if_true, if_false]
      · simp only [hV0, hV1, h0, stE n0, krE n0, st7E n0, t3_er n0, bne_of n0, beq_of n0, kpn _ n0, st0, kr0, st70, t3_ok, bind_ok, bind_er, o7, o3, o2, o11, V2_mk, kp0, cond_true, cond_false, Bool.not_true, Bool.not_false, Bool.false_and, Bool.and_false, Bool.true_and, Bool.and_true, bne_self_eq_false, beq_self_eq_true, if_true, if_false]
theorem direction_Add.ok : SOK Try.prog 76 (direction_Add.sp direction_Add) := by
  refine sok_of (E := ⟨[(65, direction_Valid.sp direction_Valid), (68, direction_calc_add.sp direction_calc_add), (90, direction_calc_box.sp direction_calc_box)], []⟩) ⟨(specs_cons direction_Valid.ok (specs_cons direction_calc_add.ok (specs_cons direction_calc_box.ok specs_nil))), inl_nil, mixed_ok⟩ 40 Try.func76 (by decide) rfl no_loops fun vs bl v bl' h => ?_
  unfold direction_Add.sp at h
  split at h
  · rename_i a0_0 a0_1 a0_2 a0_3 a0_4 a0_5 a1_0 a1_1 a1_2 a1_3 a1_4 a1_5
    simp only [Option.some.injEq, Prod.mk.injEq, true_and] at h
    obtain ⟨rfl, rfl⟩ := h
    refine ⟨?_, by simp [okV, Nat.blt], clo_spec 8 _ (by kernel_rfl), told_blk (by kernel_rfl)⟩
    refine (direction_Add.run direction_Valid direction_calc_add direction_calc_box a0_0 a0_1 a0_2 a0_3 a0_4 a0_5 a1_0 a1_1 a1_2 a1_3 a1_4 a1_5).trans ?_
    refine (direction_Add.nat direction_Valid direction_calc_add direction_calc_box a0_0 a0_1 a0_2 a0_3 a0_4 a0_5 a1_0 a1_1 a1_2 a1_3 a1_4 a1_5 _).trans ?_
    kernel_rfl
  · cases h

/-! ### (*culet/refraction.calc).sum (42) -/
def refraction_calc_sum.K {R : Type} (f_direction_Add : Int → Int → Int → Int → Int → Int → Int → Int → Int → Int → Int → Int → (Int × Int × Int × Int × Int × Int × Int)) (s0_0 : Int) (a1_0 : Int) (a1_1 : Int) (a1_2 : Int) (a1_3 : Int) (a1_4 : Int) (a1_5 : Int) (a2_0 : Int) (a2_1 : Int) (a2_2 : Int) (a2_3 : Int) (a2_4 : Int) (a2_5 : Int) (k : Int × Int × Int × Int × Int × Int × Int → R) : R :=
  bif s0_0 != 0 then
    k (a1_0, a1_1, a1_2, a1_3, a1_4, a1_5, s0_0)
  else
    let t0 := f_direction_Add a1_0 a1_1 a1_2 a1_3 a1_4 a1_5 a2_0 a2_1 a2_2 a2_3 a2_4 a2_5
    k (t0.fst, t0.snd.fst, t0.snd.snd.fst, t0.snd.snd.snd.fst, t0.snd.snd.snd.snd.fst, t0.snd.snd.snd.snd.snd.fst, t0.snd.snd.snd.snd.snd.snd)
set_option maxRecDepth 100000 in
theorem refraction_calc_sum.run (f_direction_Add : Int → Int → Int → Int → Int → Int → Int → Int → Int → Int → Int → Int → (Int × Int × Int × Int × Int × Int × Int)) (s0_0 : Int) (a1_0 : Int) (a1_1 : Int) (a1_2 : Int) (a1_3 : Int) (a1_4 : Int) (a1_5 : Int) (a2_0 : Int) (a2_1 : Int) (a2_2 : Int) (a2_3 : Int) (a2_4 : Int) (a2_5 : Int) : xfn Try.prog ⟨[(76, direction_Add.sp f_direction_Add)], []⟩ [] 40 Try.f42 [.pointer (some ⟨0, 0, none⟩), .agg ⟨[.int .i64 a1_0, .int .i64 a1_1, .int .i64 a1_2, .int .i64 a1_3, .int .i64 a1_4, .int .i64 a1_5]⟩, .agg ⟨[.int .i64 a2_0, .int .i64 a2_1, .int .i64 a2_2, .int .i64 a2_3, .int .i64 a2_4, .int .i64 a2_5]⟩] [.cs [.int .i64 s0_0] 63] = refraction_calc_sum.K f_direction_Add s0_0 a1_0 a1_1 a1_2 a1_3 a1_4 a1_5 a2_0 a2_1 a2_2 a2_3 a2_4 a2_5 (fun r => some (.agg ⟨[.int .i64 r.1, .int .i64 r.2.1, .int .i64 r.2.2.1, .int .i64 r.2.2.2.1, .int .i64 r.2.2.2.2.1, .int .i64 r.2.2.2.2.2.1]⟩, [.cs [.int .i64 r.2.2.2.2.2.2] 63])) := by kernel_rfl
def refraction_calc_sum (s0_0 : Int) (a1_0 : Int) (a1_1 : Int) (a1_2 : Int) (a1_3 : Int) (a1_4 : Int) (a1_5 : Int) (a2_0 : Int) (a2_1 : Int) (a2_2 : Int) (a2_3 : Int) (a2_4 : Int) (a2_5 : Int) : Int × Int × Int × Int × Int × Int × Int := refraction_calc_sum.K direction_Add s0_0 a1_0 a1_1 a1_2 a1_3 a1_4 a1_5 a2_0 a2_1 a2_2 a2_3 a2_4 a2_5 id
theorem refraction_calc_sum.nat {R : Type} (f_direction_Add : Int → Int → Int → Int → Int → Int → Int → Int → Int → Int → Int → Int → (Int × Int × Int × Int × Int × Int × Int)) (s0_0 : Int) (a1_0 : Int) (a1_1 : Int) (a1_2 : Int) (a1_3 : Int) (a1_4 : Int) (a1_5 : Int) (a2_0 : Int) (a2_1 : Int) (a2_2 : Int) (a2_3 : Int) (a2_4 : Int) (a2_5 : Int) (k : Int × Int × Int × Int × Int × Int × Int → R) : refraction_calc_sum.K f_direction_Add s0_0 a1_0 a1_1 a1_2 a1_3 a1_4 a1_5 a2_0 a2_1 a2_2 a2_3 a2_4 a2_5 k = k (refraction_calc_sum.K f_direction_Add s0_0 a1_0 a1_1 a1_2 a1_3 a1_4 a1_5 a2_0 a2_1 a2_2 a2_3 a2_4 a2_5 id) := by
  simp only [refraction_calc_sum.K, acond k, id_eq]
theorem refraction_calc_sum.eq (s a0 a1 a2 a3 a4 a5 b0 b1 b2 b3 b4 b5 : Int) : refraction_calc_sum s a0 a1 a2 a3 a4 a5 b0 b1 b2 b3 b4 b5 = st7 s ((a0, a1), (a2, a3), (a4, a5)) (dadd ((a0, a1), (a2, a3), (a4, a5)) ((b0, b1), (b2, b3), (b4, b5))) := by
  simp only [refraction_calc_sum, refraction_calc_sum.K, id_eq, direction_Add.eq, st7]
theorem refraction_calc_sum.ok : SOK Try.prog 42 (refraction_calc_sum.sp refraction_calc_sum) := by
  refine sok_of (E := ⟨[(76, direction_Add.sp direction_Add)], []⟩) ⟨(specs_cons direction_Add.ok specs_nil), inl_nil, mixed_ok⟩ 40 Try.func42 (by decide) rfl no_loops fun vs bl v bl' h => ?_
  unfold refraction_calc_sum.sp at h
  split at h
  · rename_i a1_0 a1_1 a1_2 a1_3 a1_4 a1_5 a2_0 a2_1 a2_2 a2_3 a2_4 a2_5 s0_0
    simp only [Option.some.injEq, Prod.mk.injEq, true_and] at h
    obtain ⟨rfl, rfl⟩ := h
    refine ⟨?_, by simp [okV, Nat.blt], clo_spec 8 _ (by kernel_rfl), told_blk (by kernel_rfl)⟩
    refine (refraction_calc_sum.run direction_Add s0_0 a1_0 a1_1 a1_2 a1_3 a1_4 a1_5 a2_0 a2_1 a2_2 a2_3 a2_4 a2_5).trans ?_
    refine (refraction_calc_sum.nat direction_Add s0_0 a1_0 a1_1 a1_2 a1_3 a1_4 a1_5 a2_0 a2_1 a2_2 a2_3 a2_4 a2_5 _).trans ?_
    kernel_rfl
  · cases h

/-! ### culet/refraction.Refract (9) -/
def refraction_Refract.K {R : Type} (f_refraction_Radicand : Int → Int → Int → Int → (Int × Int × Int)) (f_refraction_Refract_1 : Int → (Int × Int × Int × Int × Int × Int × Int × Int × Int × Int × Int)) (f_refraction_valid : Int → Int → Int → Int → Int → Int → Int → Int → Int → Int → Int → Int → Int → Int → (Bool)) (f_direction_Dot : Int → Int → Int → Int → Int → Int → Int → Int → Int → Int → Int → Int → (Int × Int × Int)) (f_interval_Sign : Int → Int → (Int)) (f_refraction_calc_one_interval_Square : Int → Int → Int → (Int × Int × Int)) (f_refraction_calc_one_interval_Sqrt : Int → Int → Int → (Int × Int × Int)) (f_refraction_calc_one_interval_Neg : Int → Int → Int → (Int × Int × Int)) (f_interval_Sqrt : Int → Int → (Int × Int × Int)) (f_interval_Neg : Int → Int → (Int × Int × Int)) (f_refraction_calc_scale : Int → Int → Int → Int → Int → Int → Int → Int → Int → (Int × Int × Int × Int × Int × Int × Int)) (f_refraction_calc_two_interval_Add : Int → Int → Int → Int → Int → (Int × Int × Int)) (f_refraction_calc_two_interval_Sub : Int → Int → Int → Int → Int → (Int × Int × Int)) (f_refraction_calc_two_interval_Mul : Int → Int → Int → Int → Int → (Int × Int × Int)) (f_refraction_calc_two_interval_Div : Int → Int → Int → Int → Int → (Int × Int × Int)) (f_interval_Sub : Int → Int → Int → Int → (Int × Int × Int)) (f_interval_Mul : Int → Int → Int → Int → (Int × Int × Int)) (f_refraction_calc_sum : Int → Int → Int → Int → Int → Int → Int → Int → Int → Int → Int → Int → Int → (Int × Int × Int × Int × Int × Int × Int)) (a0_0 : Int) (a0_1 : Int) (a0_2 : Int) (a0_3 : Int) (a0_4 : Int) (a0_5 : Int) (a1_0 : Int) (a1_1 : Int) (a1_2 : Int) (a1_3 : Int) (a1_4 : Int) (a1_5 : Int) (a2_0 : Int) (a2_1 : Int) (k : Int × Int × Int × Int × Int × Int × Int × Int × Int × Int × Int → R) : R :=
  let t0 := f_refraction_valid a0_0 a0_1 a0_2 a0_3 a0_4 a0_5 a1_0 a1_1 a1_2 a1_3 a1_4 a1_5 a2_0 a2_1
  bif !t0 then
    let t1 := f_refraction_Refract_1 1
    k (t1.fst, t1.snd.fst, t1.snd.snd.fst, t1.snd.snd.snd.fst, t1.snd.snd.snd.snd.fst, t1.snd.snd.snd.snd.snd.fst, t1.snd.snd.snd.snd.snd.snd.fst, t1.snd.snd.snd.snd.snd.snd.snd.fst, t1.snd.snd.snd.snd.snd.snd.snd.snd.fst, t1.snd.snd.snd.snd.snd.snd.snd.snd.snd.fst, t1.snd.snd.snd.snd.snd.snd.snd.snd.snd.snd)
  else
    let t2 := f_direction_Dot a0_0 a0_1 a0_2 a0_3 a0_4 a0_5 a1_0 a1_1 a1_2 a1_3 a1_4 a1_5
    bif t2.snd.snd != 0 then
      let t3 := f_refraction_Refract_1 t2.snd.snd
      k (t3.fst, t3.snd.fst, t3.snd.snd.fst, t3.snd.snd.snd.fst, t3.snd.snd.snd.snd.fst, t3.snd.snd.snd.snd.snd.fst, t3.snd.snd.snd.snd.snd.snd.fst, t3.snd.snd.snd.snd.snd.snd.snd.fst, t3.snd.snd.snd.snd.snd.snd.snd.snd.fst, t3.snd.snd.snd.snd.snd.snd.snd.snd.snd.fst, t3.snd.snd.snd.snd.snd.snd.snd.snd.snd.snd)
    else
      let t4 := f_interval_Sign t2.fst t2.snd.fst
      bif t4 == 0 then
        let t5 := f_refraction_Refract_1 9
        k (t5.fst, t5.snd.fst, t5.snd.snd.fst, t5.snd.snd.snd.fst, t5.snd.snd.snd.snd.fst, t5.snd.snd.snd.snd.snd.fst, t5.snd.snd.snd.snd.snd.snd.fst, t5.snd.snd.snd.snd.snd.snd.snd.fst, t5.snd.snd.snd.snd.snd.snd.snd.snd.fst, t5.snd.snd.snd.snd.snd.snd.snd.snd.snd.fst, t5.snd.snd.snd.snd.snd.snd.snd.snd.snd.snd)
      else
        let t6 := f_refraction_Radicand t2.fst t2.snd.fst a2_0 a2_1
        bif t6.snd.snd != 0 then
          let t7 := f_refraction_Refract_1 t6.snd.snd
          k (t7.fst, t7.snd.fst, t7.snd.snd.fst, t7.snd.snd.snd.fst, t7.snd.snd.snd.snd.fst, t7.snd.snd.snd.snd.snd.fst, t7.snd.snd.snd.snd.snd.snd.fst, t7.snd.snd.snd.snd.snd.snd.snd.fst, t7.snd.snd.snd.snd.snd.snd.snd.snd.fst, t7.snd.snd.snd.snd.snd.snd.snd.snd.snd.fst, t7.snd.snd.snd.snd.snd.snd.snd.snd.snd.snd)
        else
          bif decide (t6.fst < 0) then
            let t8 := f_refraction_Refract_1 15
            k (t8.fst, t8.snd.fst, t8.snd.snd.fst, t8.snd.snd.snd.fst, t8.snd.snd.snd.snd.fst, t8.snd.snd.snd.snd.snd.fst, t8.snd.snd.snd.snd.snd.snd.fst, t8.snd.snd.snd.snd.snd.snd.snd.fst, t8.snd.snd.snd.snd.snd.snd.snd.snd.fst, t8.snd.snd.snd.snd.snd.snd.snd.snd.snd.fst, t8.snd.snd.snd.snd.snd.snd.snd.snd.snd.snd)
          else
            bif decide (t4 < 0) then
              let t9 := f_refraction_calc_one_interval_Sqrt 0 t6.fst t6.snd.fst
              let t10 := f_refraction_calc_one_interval_Neg t9.snd.snd t9.fst t9.snd.fst
              let t11 := f_refraction_calc_scale t10.snd.snd a0_0 a0_1 a0_2 a0_3 a0_4 a0_5 a2_0 a2_1
              let t12 := f_refraction_calc_two_interval_Mul t11.snd.snd.snd.snd.snd.snd a2_0 a2_1 t2.fst t2.snd.fst
              let t13 := f_refraction_calc_two_interval_Sub t12.snd.snd t10.fst t10.snd.fst t12.fst t12.snd.fst
              let t14 := f_refraction_calc_scale t13.snd.snd a1_0 a1_1 a1_2 a1_3 a1_4 a1_5 t13.fst t13.snd.fst
              let t15 := f_refraction_calc_sum t14.snd.snd.snd.snd.snd.snd t11.fst t11.snd.fst t11.snd.snd.fst t11.snd.snd.snd.fst t11.snd.snd.snd.snd.fst t11.snd.snd.snd.snd.snd.fst t14.fst t14.snd.fst t14.snd.snd.fst t14.snd.snd.snd.fst t14.snd.snd.snd.snd.fst t14.snd.snd.snd.snd.snd.fst
              bif t15.snd.snd.snd.snd.snd.snd != 0 then
                let t16 := f_refraction_Refract_1 t15.snd.snd.snd.snd.snd.snd
                k (t16.fst, t16.snd.fst, t16.snd.snd.fst, t16.snd.snd.snd.fst, t16.snd.snd.snd.snd.fst, t16.snd.snd.snd.snd.snd.fst, t16.snd.snd.snd.snd.snd.snd.fst, t16.snd.snd.snd.snd.snd.snd.snd.fst, t16.snd.snd.snd.snd.snd.snd.snd.snd.fst, t16.snd.snd.snd.snd.snd.snd.snd.snd.snd.fst, t16.snd.snd.snd.snd.snd.snd.snd.snd.snd.snd)
              else
                k (t15.fst, t15.snd.fst, t15.snd.snd.fst, t15.snd.snd.snd.fst, t15.snd.snd.snd.snd.fst, t15.snd.snd.snd.snd.snd.fst, t2.fst, t2.snd.fst, t10.fst, t10.snd.fst, 0)
            else
              let t17 := f_refraction_calc_one_interval_Sqrt 0 t6.fst t6.snd.fst
              let t18 := f_refraction_calc_scale t17.snd.snd a0_0 a0_1 a0_2 a0_3 a0_4 a0_5 a2_0 a2_1
              let t19 := f_refraction_calc_two_interval_Mul t18.snd.snd.snd.snd.snd.snd a2_0 a2_1 t2.fst t2.snd.fst
              let t20 := f_refraction_calc_two_interval_Sub t19.snd.snd t17.fst t17.snd.fst t19.fst t19.snd.fst
              let t21 := f_refraction_calc_scale t20.snd.snd a1_0 a1_1 a1_2 a1_3 a1_4 a1_5 t20.fst t20.snd.fst
              let t22 := f_refraction_calc_sum t21.snd.snd.snd.snd.snd.snd t18.fst t18.snd.fst t18.snd.snd.fst t18.snd.snd.snd.fst t18.snd.snd.snd.snd.fst t18.snd.snd.snd.snd.snd.fst t21.fst t21.snd.fst t21.snd.snd.fst t21.snd.snd.snd.fst t21.snd.snd.snd.snd.fst t21.snd.snd.snd.snd.snd.fst
              bif t22.snd.snd.snd.snd.snd.snd != 0 then
                let t23 := f_refraction_Refract_1 t22.snd.snd.snd.snd.snd.snd
                k (t23.fst, t23.snd.fst, t23.snd.snd.fst, t23.snd.snd.snd.fst, t23.snd.snd.snd.snd.fst, t23.snd.snd.snd.snd.snd.fst, t23.snd.snd.snd.snd.snd.snd.fst, t23.snd.snd.snd.snd.snd.snd.snd.fst, t23.snd.snd.snd.snd.snd.snd.snd.snd.fst, t23.snd.snd.snd.snd.snd.snd.snd.snd.snd.fst, t23.snd.snd.snd.snd.snd.snd.snd.snd.snd.snd)
              else
                k (t22.fst, t22.snd.fst, t22.snd.snd.fst, t22.snd.snd.snd.fst, t22.snd.snd.snd.snd.fst, t22.snd.snd.snd.snd.snd.fst, t2.fst, t2.snd.fst, t17.fst, t17.snd.fst, 0)
set_option maxRecDepth 100000 in
theorem refraction_Refract.run (f_refraction_Radicand : Int → Int → Int → Int → (Int × Int × Int)) (f_refraction_Refract_1 : Int → (Int × Int × Int × Int × Int × Int × Int × Int × Int × Int × Int)) (f_refraction_valid : Int → Int → Int → Int → Int → Int → Int → Int → Int → Int → Int → Int → Int → Int → (Bool)) (f_direction_Dot : Int → Int → Int → Int → Int → Int → Int → Int → Int → Int → Int → Int → (Int × Int × Int)) (f_interval_Sign : Int → Int → (Int)) (f_refraction_calc_one_interval_Square : Int → Int → Int → (Int × Int × Int)) (f_refraction_calc_one_interval_Sqrt : Int → Int → Int → (Int × Int × Int)) (f_refraction_calc_one_interval_Neg : Int → Int → Int → (Int × Int × Int)) (f_interval_Sqrt : Int → Int → (Int × Int × Int)) (f_interval_Neg : Int → Int → (Int × Int × Int)) (f_refraction_calc_scale : Int → Int → Int → Int → Int → Int → Int → Int → Int → (Int × Int × Int × Int × Int × Int × Int)) (f_refraction_calc_two_interval_Add : Int → Int → Int → Int → Int → (Int × Int × Int)) (f_refraction_calc_two_interval_Sub : Int → Int → Int → Int → Int → (Int × Int × Int)) (f_refraction_calc_two_interval_Mul : Int → Int → Int → Int → Int → (Int × Int × Int)) (f_refraction_calc_two_interval_Div : Int → Int → Int → Int → Int → (Int × Int × Int)) (f_interval_Sub : Int → Int → Int → Int → (Int × Int × Int)) (f_interval_Mul : Int → Int → Int → Int → (Int × Int × Int)) (f_refraction_calc_sum : Int → Int → Int → Int → Int → Int → Int → Int → Int → Int → Int → Int → Int → (Int × Int × Int × Int × Int × Int × Int)) (a0_0 : Int) (a0_1 : Int) (a0_2 : Int) (a0_3 : Int) (a0_4 : Int) (a0_5 : Int) (a1_0 : Int) (a1_1 : Int) (a1_2 : Int) (a1_3 : Int) (a1_4 : Int) (a1_5 : Int) (a2_0 : Int) (a2_1 : Int) : xfn Try.prog ⟨[(18, refraction_Radicand.sp f_refraction_Radicand), (31, refraction_Refract_1.sp f_refraction_Refract_1), (32, refraction_valid.sp f_refraction_valid), (33, direction_Dot.sp f_direction_Dot), (34, interval_Sign.sp f_interval_Sign), (35, refraction_calc_one.sp f_refraction_calc_one_interval_Square f_refraction_calc_one_interval_Sqrt f_refraction_calc_one_interval_Neg), (36, interval_Sqrt.sp f_interval_Sqrt), (37, interval_Neg.sp f_interval_Neg), (38, refraction_calc_scale.sp f_refraction_calc_scale), (39, refraction_calc_two.sp f_refraction_calc_two_interval_Add f_refraction_calc_two_interval_Sub f_refraction_calc_two_interval_Mul f_refraction_calc_two_interval_Div), (40, interval_Sub.sp f_interval_Sub), (41, interval_Mul.sp f_interval_Mul), (42, refraction_calc_sum.sp f_refraction_calc_sum)], []⟩ [] 40 Try.f9 [.agg ⟨[.int .i64 a0_0, .int .i64 a0_1, .int .i64 a0_2, .int .i64 a0_3, .int .i64 a0_4, .int .i64 a0_5]⟩, .agg ⟨[.int .i64 a1_0, .int .i64 a1_1, .int .i64 a1_2, .int .i64 a1_3, .int .i64 a1_4, .int .i64 a1_5]⟩, .agg ⟨[.int .i64 a2_0, .int .i64 a2_1]⟩] [] = refraction_Refract.K f_refraction_Radicand f_refraction_Refract_1 f_refraction_valid f_direction_Dot f_interval_Sign f_refraction_calc_one_interval_Square f_refraction_calc_one_interval_Sqrt f_refraction_calc_one_interval_Neg f_interval_Sqrt f_interval_Neg f_refraction_calc_scale f_refraction_calc_two_interval_Add f_refraction_calc_two_interval_Sub f_refraction_calc_two_interval_Mul f_refraction_calc_two_interval_Div f_interval_Sub f_interval_Mul f_refraction_calc_sum a0_0 a0_1 a0_2 a0_3 a0_4 a0_5 a1_0 a1_1 a1_2 a1_3 a1_4 a1_5 a2_0 a2_1 (fun r => some (.tuple ⟨[.agg ⟨[.int .i64 r.1, .int .i64 r.2.1, .int .i64 r.2.2.1, .int .i64 r.2.2.2.1, .int .i64 r.2.2.2.2.1, .int .i64 r.2.2.2.2.2.1]⟩, .agg ⟨[.int .i64 r.2.2.2.2.2.2.1, .int .i64 r.2.2.2.2.2.2.2.1]⟩, .agg ⟨[.int .i64 r.2.2.2.2.2.2.2.2.1, .int .i64 r.2.2.2.2.2.2.2.2.2.1]⟩, .int .i64 r.2.2.2.2.2.2.2.2.2.2]⟩, [])) := by kernel_rfl
def refraction_Refract (a0_0 : Int) (a0_1 : Int) (a0_2 : Int) (a0_3 : Int) (a0_4 : Int) (a0_5 : Int) (a1_0 : Int) (a1_1 : Int) (a1_2 : Int) (a1_3 : Int) (a1_4 : Int) (a1_5 : Int) (a2_0 : Int) (a2_1 : Int) : Int × Int × Int × Int × Int × Int × Int × Int × Int × Int × Int := refraction_Refract.K refraction_Radicand refraction_Refract_1 refraction_valid direction_Dot interval_Sign refraction_calc_one_interval_Square refraction_calc_one_interval_Sqrt refraction_calc_one_interval_Neg interval_Sqrt interval_Neg refraction_calc_scale refraction_calc_two_interval_Add refraction_calc_two_interval_Sub refraction_calc_two_interval_Mul refraction_calc_two_interval_Div interval_Sub interval_Mul refraction_calc_sum a0_0 a0_1 a0_2 a0_3 a0_4 a0_5 a1_0 a1_1 a1_2 a1_3 a1_4 a1_5 a2_0 a2_1 id
theorem refraction_Refract.nat {R : Type} (f_refraction_Radicand : Int → Int → Int → Int → (Int × Int × Int)) (f_refraction_Refract_1 : Int → (Int × Int × Int × Int × Int × Int × Int × Int × Int × Int × Int)) (f_refraction_valid : Int → Int → Int → Int → Int → Int → Int → Int → Int → Int → Int → Int → Int → Int → (Bool)) (f_direction_Dot : Int → Int → Int → Int → Int → Int → Int → Int → Int → Int → Int → Int → (Int × Int × Int)) (f_interval_Sign : Int → Int → (Int)) (f_refraction_calc_one_interval_Square : Int → Int → Int → (Int × Int × Int)) (f_refraction_calc_one_interval_Sqrt : Int → Int → Int → (Int × Int × Int)) (f_refraction_calc_one_interval_Neg : Int → Int → Int → (Int × Int × Int)) (f_interval_Sqrt : Int → Int → (Int × Int × Int)) (f_interval_Neg : Int → Int → (Int × Int × Int)) (f_refraction_calc_scale : Int → Int → Int → Int → Int → Int → Int → Int → Int → (Int × Int × Int × Int × Int × Int × Int)) (f_refraction_calc_two_interval_Add : Int → Int → Int → Int → Int → (Int × Int × Int)) (f_refraction_calc_two_interval_Sub : Int → Int → Int → Int → Int → (Int × Int × Int)) (f_refraction_calc_two_interval_Mul : Int → Int → Int → Int → Int → (Int × Int × Int)) (f_refraction_calc_two_interval_Div : Int → Int → Int → Int → Int → (Int × Int × Int)) (f_interval_Sub : Int → Int → Int → Int → (Int × Int × Int)) (f_interval_Mul : Int → Int → Int → Int → (Int × Int × Int)) (f_refraction_calc_sum : Int → Int → Int → Int → Int → Int → Int → Int → Int → Int → Int → Int → Int → (Int × Int × Int × Int × Int × Int × Int)) (a0_0 : Int) (a0_1 : Int) (a0_2 : Int) (a0_3 : Int) (a0_4 : Int) (a0_5 : Int) (a1_0 : Int) (a1_1 : Int) (a1_2 : Int) (a1_3 : Int) (a1_4 : Int) (a1_5 : Int) (a2_0 : Int) (a2_1 : Int) (k : Int × Int × Int × Int × Int × Int × Int × Int × Int × Int × Int → R) : refraction_Refract.K f_refraction_Radicand f_refraction_Refract_1 f_refraction_valid f_direction_Dot f_interval_Sign f_refraction_calc_one_interval_Square f_refraction_calc_one_interval_Sqrt f_refraction_calc_one_interval_Neg f_interval_Sqrt f_interval_Neg f_refraction_calc_scale f_refraction_calc_two_interval_Add f_refraction_calc_two_interval_Sub f_refraction_calc_two_interval_Mul f_refraction_calc_two_interval_Div f_interval_Sub f_interval_Mul f_refraction_calc_sum a0_0 a0_1 a0_2 a0_3 a0_4 a0_5 a1_0 a1_1 a1_2 a1_3 a1_4 a1_5 a2_0 a2_1 k = k (refraction_Refract.K f_refraction_Radicand f_refraction_Refract_1 f_refraction_valid f_direction_Dot f_interval_Sign f_refraction_calc_one_interval_Square f_refraction_calc_one_interval_Sqrt f_refraction_calc_one_interval_Neg f_interval_Sqrt f_interval_Neg f_refraction_calc_scale f_refraction_calc_two_interval_Add f_refraction_calc_two_interval_Sub f_refraction_calc_two_interval_Mul f_refraction_calc_two_interval_Div f_interval_Sub f_interval_Mul f_refraction_calc_sum a0_0 a0_1 a0_2 a0_3 a0_4 a0_5 a1_0 a1_1 a1_2 a1_3 a1_4 a1_5 a2_0 a2_1 id) := by
  simp only [refraction_Refract.K, acond k, id_eq]
theorem beqT {a b : Int} (h : a = b) : (a == b) = true := by rw [h]; exact beq_self_eq_true b
theorem refraction_Refract.eq (a0 a1 a2 a3 a4 a5 b0 b1 b2 b3 b4 b5 r0 r1 : Int) : refraction_Refract a0 a1 a2 a3 a4 a5 b0 b1 b2 b3 b4 b5 r0 r1 = o11 (rfc ((a0, a1), (a2, a3), (a4, a5)) ((b0, b1), (b2, b3), (b4, b5)) (r0, r1)) := by
  simp only [refraction_Refract, refraction_Refract.K, id_eq, refraction_valid.eq, direction_Dot.eq, interval_Sign.eq, refraction_Radicand.eq, refraction_Refract_1.eq, refraction_calc_one_interval_Sqrt.eq, refraction_calc_one_interval_Neg.eq, refraction_calc_scale.eq, refraction_calc_two_interval_Mul.eq, refraction_calc_two_interval_Sub.eq, refraction_calc_sum.eq, rfc, rtR, ngR, mulR, subR]
  cases hV0 : VB ((a0, a1), (a2, a3), (a4, a5)) && (VB ((b0, b1), (b2, b3), (b4, b5)) && V2 (r0, r1)) with
  | false =>
    simp only [hV0, st0, kr0, st70, t3_ok, bind_ok, bind_er, o7, o3, o2, o11, V2_mk, kp0, cond_true, cond_false, Bool.not_true, Bool.not_false, Bool.false_and, Bool.and_false, Bool.true_and, Bool.and_true, bne_self_eq_false, beq_self_eq_true, if_true, if_false]
  | true =>
    rcases (ddot_nz ((a0, a1), (a2, a3), (a4, a5)) ((b0, b1), (b2, b3), (b4, b5))).cases with ⟨⟨x0, x1⟩, h0⟩ | ⟨e0, n0, h0⟩
    · simp only [hV0, h0, st0, kr0, st70, t3_ok, bind_ok, bind_er, o7, o3, o2, o11, V2_mk, kp0, cond_true, cond_false, Bool.not_true, Bool.not_false, Bool.false_and, Bool.and_false, Bool.true_and, Bool.and_true, bne_self_eq_false, beq_self_eq_true, if_true, if_false]
      by_cases h1 : isg x0 x1 = 0
      · have g1 := beqT h1
        simp only [if_pos h1, g1, st0, kr0, st70, t3_ok, bind_ok, bind_er, o7, o3, o2, o11, V2_mk, kp0, cond_true, cond_false, Bool.not_true, Bool.not_false, Bool.false_and, Bool.and_false, Bool.true_and, Bool.and_true, bne_self_eq_false, beq_self_eq_true, if_true, if_false]
      · have g1 := beq_of h1
        simp only [if_neg h1, g1, st0, kr0, st70, t3_ok, bind_ok, bind_er, o7, o3, o2, o11, V2_mk, kp0, cond_true, cond_false, Bool.not_true, Bool.not_false, Bool.false_and, Bool.and_false, Bool.true_and, Bool.and_true, bne_self_eq_false, beq_self_eq_true, if_true, if_false]
        rcases (rdc_nz (x0, x1) (r0, r1)).cases with ⟨⟨q0, q1⟩, h2⟩ | ⟨e2, n2, h2⟩
        · simp only [h2, st0, kr0, st70, t3_ok, bind_ok, bind_er, o7, o3, o2, o11, V2_mk, kp0, cond_true, cond_false, Bool.not_true, Bool.not_false, Bool.false_and, Bool.and_false, Bool.true_and, Bool.and_true, bne_self_eq_false, beq_self_eq_true, if_true, if_false]
          by_cases h3 : q0 < 0
          · have g3 := decide_eq_true h3
            simp only [if_pos h3, g3, st0, kr0, st70, t3_ok, bind_ok, bind_er, o7, o3, o2, o11, V2_mk, kp0, cond_true, cond_false, Bool.not_true, Bool.not_false, Bool.false_and, Bool.and_false, Bool.true_and, Bool.and_true, bne_self_eq_false, beq_self_eq_true, if_true, if_false]
          · have g3 := decide_eq_false h3
            simp only [if_neg h3, g3, st0, kr0, st70, t3_ok, bind_ok, bind_er, o7, o3, o2, o11, V2_mk, kp0, cond_true, cond_false, Bool.not_true, Bool.not_false, Bool.false_and, Bool.and_false, Bool.true_and, Bool.and_true, bne_self_eq_false, beq_self_eq_true, if_true, if_false]
            by_cases h4 : isg x0 x1 < 0
            · have g4 := decide_eq_true h4
              simp only [if_pos h4, g4, st0, kr0, st70, t3_ok, bind_ok, bind_er, o7, o3, o2, o11, V2_mk, kp0, cond_true, cond_false, Bool.not_true, Bool.not_false, Bool.false_and, Bool.and_false, Bool.true_and, Bool.and_true, bne_self_eq_false, beq_self_eq_true, if_true, if_false]
              rcases t3c (isr q0 q1) with ⟨s0, s1, h5⟩ | ⟨s0, s1, e5, n5, h5⟩
              · simp only [h5, st0, kr0, st70, t3_ok, bind_ok, bind_er, o7, o3, o2, o11, V2_mk, kp0, cond_true, cond_false, Bool.not_true, Bool.not_false, Bool.false_and, Bool.and_false, Bool.true_and, Bool.and_true, bne_self_eq_false, beq_self_eq_true, if_true, if_false]
                rcases t3c (ineg s0 s1) with ⟨t0, t1, h6⟩ | ⟨t0, t1, e6, n6, h6⟩
                · simp only [h6, st0, kr0, st70, t3_ok, bind_ok, bind_er, o7, o3, o2, o11, V2_mk, kp0, cond_true, cond_false, Bool.not_true, Bool.not_false, Bool.false_and, Bool.and_false, Bool.true_and, Bool.and_true, bne_self_eq_false, beq_self_eq_true, if_true, if_false]
                  rcases (dscale_nz ((a0, a1), (a2, a3), (a4, a5)) (r0, r1)).cases with ⟨⟨⟨u0, u1⟩, ⟨u2, u3⟩, ⟨u4, u5⟩⟩, h7⟩ | ⟨e7, n7, h7⟩
                  · simp only [h7, st0, kr0, st70, t3_ok, bind_ok, bind_er, o7, o3, o2, o11, V2_mk, kp0, cond_true, cond_false, Bool.not_true, Bool.not_false, Bool.false_and, Bool.and_false, Bool.true_and, Bool.and_true, bne_self_eq_false, beq_self_eq_true, if_true, if_false]
                    rcases t3c (imul r0 r1 x0 x1) with ⟨p0, p1, h8⟩ | ⟨p0, p1, e8, n8, h8⟩
                    · simp only [h8, st0, kr0, st70, t3_ok, bind_ok, bind_er, o7, o3, o2, o11, V2_mk, kp0, cond_true, cond_false, Bool.not_true, Bool.not_false, Bool.false_and, Bool.and_false, Bool.true_and, Bool.and_true, bne_self_eq_false, beq_self_eq_true, if_true, if_false]
                      rcases t3c (isub t0 t1 p0 p1) with ⟨m0, m1, h9⟩ | ⟨m0, m1, e9, n9, h9⟩
                      · simp only [h9, st0, kr0, st70, t3_ok, bind_ok, bind_er, o7, o3, o2, o11, V2_mk, kp0, cond_true, cond_false, Bool.not_true, Bool.not_false, Bool.false_and, Bool.and_false, Bool.true_and, Bool.and_true, bne_self_eq_false, beq_self_eq_true, if_true, if_false]
                        rcases (dscale_nz ((b0, b1), (b2, b3), (b4, b5)) (m0, m1)).cases with ⟨⟨⟨v0, v1⟩, ⟨v2, v3⟩, ⟨v4, v5⟩⟩, h10⟩ | ⟨e10, n10, h10⟩
                        · simp only [h10, st0, kr0, st70, t3_ok, bind_ok, bind_er, o7, o3, o2, o11, V2_mk, kp0, cond_true, cond_false, Bool.not_true, Bool.not_false, Bool.false_and, Bool.and_false, Bool.true_and, Bool.and_true, bne_self_eq_false, beq_self_eq_true, if_true, if_false]
                          rcases (dadd_nz ((u0, u1), (u2, u3), (u4, u5)) ((v0, v1), (v2, v3), (v4, v5))).cases with ⟨⟨⟨w0, w1⟩, ⟨w2, w3⟩, ⟨w4, w5⟩⟩, h11⟩ | ⟨e11, n11, h11⟩
                          · simp only [h11, st0, kr0, st70, t3_ok, bind_ok, bind_er, o7, o3, o2, o11, V2_mk, kp0, cond_true, cond_false, Bool.not_true, Bool.not_false, Bool.false_and, Bool.and_false, Bool.true_and, Bool.and_true, bne_self_eq_false, beq_self_eq_true, if_true, if_false]
                          · simp only [h11, stE n11, krE n11, st7E n11, t3_er n11, bne_of n11, beq_of n11, kpn _ n11, st0, kr0, st70, t3_ok, bind_ok, bind_er, o7, o3, o2, o11, V2_mk, kp0, cond_true, cond_false, Bool.not_true, Bool.not_false, Bool.false_and, Bool.and_false, Bool.true_and, Bool.and_true, bne_self_eq_false, beq_self_eq_true, if_true, if_false]
                        · simp only [h10, stE n10, krE n10, st7E n10, t3_er n10, bne_of n10, beq_of n10, kpn _ n10, st0, kr0, st70, t3_ok, bind_ok, bind_er, o7, o3, o2, o11, V2_mk, kp0, cond_true, cond_false, Bool.not_true, Bool.not_false, Bool.false_and, Bool.and_false, Bool.true_and, Bool.and_true, bne_self_eq_false, beq_self_eq_true, if_true, if_false]
                      · simp only [h9, stE n9, krE n9, st7E n9, t3_er n9, bne_of n9, beq_of n9, kpn _ n9, st0, kr0, st70, t3_ok, bind_ok, bind_er, o7, o3, o2, o11, V2_mk, kp0, cond_true, cond_false, Bool.not_true, Bool.not_false, Bool.false_and, Bool.and_false, Bool.true_and, Bool.and_true, bne_self_eq_false, beq_self_eq_true, if_true, if_false]
                    · simp only [h8, stE n8, krE n8, st7E n8, t3_er n8, bne_of n8, beq_of n8, kpn _ n8, st0, kr0, st70, t3_ok, bind_ok, bind_er, o7, o3, o2, o11, V2_mk, kp0, cond_true, cond_false, Bool.not_true, Bool.not_false, Bool.false_and, Bool.and_false, Bool.true_and, Bool.and_true, bne_self_eq_false, beq_self_eq_true, if_true, if_false]
                  · simp only [h7, stE n7, krE n7, st7E n7, t3_er n7, bne_of n7, beq_of n7, kpn _ n7, st0, kr0, st70, t3_ok, bind_ok, bind_er, o7, o3, o2, o11, V2_mk, kp0, cond_true, cond_false, Bool.not_true, Bool.not_false, Bool.false_and, Bool.and_false, Bool.true_and, Bool.and_true, bne_self_eq_false, beq_self_eq_true, if_true, if_false]
                · simp only [h6, stE n6, krE n6, st7E n6, t3_er n6, bne_of n6, beq_of n6, kpn _ n6, st0, kr0, st70, t3_ok, bind_ok, bind_er, o7, o3, o2, o11, V2_mk, kp0, cond_true, cond_false, Bool.not_true, Bool.not_false, Bool.false_and, Bool.and_false, Bool.true_and, Bool.and_true, bne_self_eq_false, beq_self_eq_true, if_true, if_false]
              · simp only [h5, stE n5, krE n5, st7E n5, t3_er n5, bne_of n5, beq_of n5, kpn _ n5, st0, kr0, st70, t3_ok, bind_ok, bind_er, o7, o3, o2, o11, V2_mk, kp0, cond_true, cond_false, Bool.not_true, Bool.not_false, Bool.false_and, Bool.and_false, Bool.true_and, Bool.and_true, bne_self_eq_false, beq_self_eq_true, if_true, if_false]
            · have g4 := decide_eq_false h4
              simp only [if_neg h4, g4, st0, kr0, st70, t3_ok, bind_ok, bind_er, o7, o3, o2, o11, V2_mk, kp0, cond_true, cond_false, Bool.not_true, Bool.not_false, Bool.false_and, Bool.and_false, Bool.true_and, Bool.and_true, bne_self_eq_false, beq_self_eq_true, if_true, if_false]
              rcases t3c (isr q0 q1) with ⟨s0, s1, h5⟩ | ⟨s0, s1, e5, n5, h5⟩
              · simp only [h5, st0, kr0, st70, t3_ok, bind_ok, bind_er, o7, o3, o2, o11, V2_mk, kp0, cond_true, cond_false, Bool.not_true, Bool.not_false, Bool.false_and, Bool.and_false, Bool.true_and, Bool.and_true, bne_self_eq_false, beq_self_eq_true, if_true, if_false]
                rcases (dscale_nz ((a0, a1), (a2, a3), (a4, a5)) (r0, r1)).cases with ⟨⟨⟨u0, u1⟩, ⟨u2, u3⟩, ⟨u4, u5⟩⟩, h6⟩ | ⟨e6, n6, h6⟩
                · simp only [h6, st0, kr0, st70, t3_ok, bind_ok, bind_er, o7, o3, o2, o11, V2_mk, kp0, cond_true, cond_false, Bool.not_true, Bool.not_false, Bool.false_and, Bool.and_false, Bool.true_and, Bool.and_true, bne_self_eq_false, beq_self_eq_true, if_true, if_false]
                  rcases t3c (imul r0 r1 x0 x1) with ⟨p0, p1, h7⟩ | ⟨p0, p1, e7, n7, h7⟩
                  · simp only [h7, st0, kr0, st70, t3_ok, bind_ok, bind_er, o7, o3, o2, o11, V2_mk, kp0, cond_true, cond_false, Bool.not_true, Bool.not_false, Bool.false_and, Bool.and_false, Bool.true_and, Bool.and_true, bne_self_eq_false, beq_self_eq_true, if_true, if_false]
                    rcases t3c (isub s0 s1 p0 p1) with ⟨m0, m1, h8⟩ | ⟨m0, m1, e8, n8, h8⟩
                    · simp only [h8, st0, kr0, st70, t3_ok, bind_ok, bind_er, o7, o3, o2, o11, V2_mk, kp0, cond_true, cond_false, Bool.not_true, Bool.not_false, Bool.false_and, Bool.and_false, Bool.true_and, Bool.and_true, bne_self_eq_false, beq_self_eq_true, if_true, if_false]
                      rcases (dscale_nz ((b0, b1), (b2, b3), (b4, b5)) (m0, m1)).cases with ⟨⟨⟨v0, v1⟩, ⟨v2, v3⟩, ⟨v4, v5⟩⟩, h9⟩ | ⟨e9, n9, h9⟩
                      · simp only [h9, st0, kr0, st70, t3_ok, bind_ok, bind_er, o7, o3, o2, o11, V2_mk, kp0, cond_true, cond_false, Bool.not_true, Bool.not_false, Bool.false_and, Bool.and_false, Bool.true_and, Bool.and_true, bne_self_eq_false, beq_self_eq_true, if_true, if_false]
                        rcases (dadd_nz ((u0, u1), (u2, u3), (u4, u5)) ((v0, v1), (v2, v3), (v4, v5))).cases with ⟨⟨⟨w0, w1⟩, ⟨w2, w3⟩, ⟨w4, w5⟩⟩, h10⟩ | ⟨e10, n10, h10⟩
                        · simp only [h10, st0, kr0, st70, t3_ok, bind_ok, bind_er, o7, o3, o2, o11, V2_mk, kp0, cond_true, cond_false, Bool.not_true, Bool.not_false, Bool.false_and, Bool.and_false, Bool.true_and, Bool.and_true, bne_self_eq_false, beq_self_eq_true, if_true, if_false]
                        · simp only [h10, stE n10, krE n10, st7E n10, t3_er n10, bne_of n10, beq_of n10, kpn _ n10, st0, kr0, st70, t3_ok, bind_ok, bind_er, o7, o3, o2, o11, V2_mk, kp0, cond_true, cond_false, Bool.not_true, Bool.not_false, Bool.false_and, Bool.and_false, Bool.true_and, Bool.and_true, bne_self_eq_false, beq_self_eq_true, if_true, if_false]
                      · simp only [h9, stE n9, krE n9, st7E n9, t3_er n9, bne_of n9, beq_of n9, kpn _ n9, st0, kr0, st70, t3_ok, bind_ok, bind_er, o7, o3, o2, o11, V2_mk, kp0, cond_true, cond_false, Bool.not_true, Bool.not_false, Bool.false_and, Bool.and_false, Bool.true_and, Bool.and_true, bne_self_eq_false, beq_self_eq_true, if_true, if_false]
                    · simp only [h8, stE n8, krE n8, st7E n8, t3_er n8, bne_of n8, beq_of n8, kpn _ n8, st0, kr0, st70, t3_ok, bind_ok, bind_er, o7, o3, o2, o11, V2_mk, kp0, cond_true, cond_false, Bool.not_true, Bool.not_false, Bool.false_and, Bool.and_false, Bool.true_and, Bool.and_true, bne_self_eq_false, beq_self_eq_true, if_true, if_false]
                  · simp only [h7, stE n7, krE n7, st7E n7, t3_er n7, bne_of n7, beq_of n7, kpn _ n7, st0, kr0, st70, t3_ok, bind_ok, bind_er, o7, o3, o2, o11, V2_mk, kp0, cond_true, cond_false, Bool.not_true, Bool.not_false, Bool.false_and, Bool.and_false, Bool.true_and, Bool.and_true, bne_self_eq_false, beq_self_eq_true, if_true, if_false]
                · simp only [h6, stE n6, krE n6, st7E n6, t3_er n6, bne_of n6, beq_of n6, kpn _ n6, st0, kr0, st70, t3_ok, bind_ok, bind_er, o7, o3, o2, o11, V2_mk, kp0, cond_true, cond_false, Bool.not_true, Bool.not_false, Bool.false_and, Bool.and_false, Bool.true_and, Bool.and_true, bne_self_eq_false, beq_self_eq_true, if_true, if_false]
              · simp only [h5, stE n5, krE n5, st7E n5, t3_er n5, bne_of n5, beq_of n5, kpn _ n5, st0, kr0, st70, t3_ok, bind_ok, bind_er, o7, o3, o2, o11, V2_mk, kp0, cond_true, cond_false, Bool.not_true, Bool.not_false, Bool.false_and, Bool.and_false, Bool.true_and, Bool.and_true, bne_self_eq_false, beq_self_eq_true, if_true, if_false]
        · simp only [h2, stE n2, krE n2, st7E n2, t3_er n2, bne_of n2, beq_of n2, kpn _ n2, st0, kr0, st70, t3_ok, bind_ok, bind_er, o7, o3, o2, o11, V2_mk, kp0, cond_true, cond_false, Bool.not_true, Bool.not_false, Bool.false_and, Bool.and_false, Bool.true_and, Bool.and_true, bne_self_eq_false, beq_self_eq_true, if_true, if_false]
    · simp only [hV0, h0, stE n0, krE n0, st7E n0, t3_er n0, bne_of n0, beq_of n0, kpn _ n0, st0, kr0, st70, t3_ok, bind_ok, bind_er, o7, o3, o2, o11, V2_mk, kp0, cond_true, cond_false, Bool.not_true, Bool.not_false, Bool.false_and, Bool.and_false, Bool.true_and, Bool.and_true, bne_self_eq_false, beq_self_eq_true, if_true, if_false]
theorem refraction_Refract.ok : SOK Try.prog 9 (refraction_Refract.sp refraction_Refract) := by
  refine sok_of (E := ⟨[(18, refraction_Radicand.sp refraction_Radicand), (31, refraction_Refract_1.sp refraction_Refract_1), (32, refraction_valid.sp refraction_valid), (33, direction_Dot.sp direction_Dot), (34, interval_Sign.sp interval_Sign), (35, refraction_calc_one.sp refraction_calc_one_interval_Square refraction_calc_one_interval_Sqrt refraction_calc_one_interval_Neg), (36, interval_Sqrt.sp interval_Sqrt), (37, interval_Neg.sp interval_Neg), (38, refraction_calc_scale.sp refraction_calc_scale), (39, refraction_calc_two.sp refraction_calc_two_interval_Add refraction_calc_two_interval_Sub refraction_calc_two_interval_Mul refraction_calc_two_interval_Div), (40, interval_Sub.sp interval_Sub), (41, interval_Mul.sp interval_Mul), (42, refraction_calc_sum.sp refraction_calc_sum)], []⟩) ⟨(specs_cons refraction_Radicand.ok (specs_cons refraction_Refract_1.ok (specs_cons refraction_valid.ok (specs_cons direction_Dot.ok (specs_cons interval_Sign.ok (specs_cons refraction_calc_one.ok (specs_cons interval_Sqrt.ok (specs_cons interval_Neg.ok (specs_cons refraction_calc_scale.ok (specs_cons refraction_calc_two.ok (specs_cons interval_Sub.ok (specs_cons interval_Mul.ok (specs_cons refraction_calc_sum.ok specs_nil))))))))))))), inl_nil, mixed_ok⟩ 40 Try.func9 (by decide) rfl no_loops fun vs bl v bl' h => ?_
  unfold refraction_Refract.sp at h
  split at h
  · rename_i a0_0 a0_1 a0_2 a0_3 a0_4 a0_5 a1_0 a1_1 a1_2 a1_3 a1_4 a1_5 a2_0 a2_1
    simp only [Option.some.injEq, Prod.mk.injEq, true_and] at h
    obtain ⟨rfl, rfl⟩ := h
    refine ⟨?_, by simp [okV, Nat.blt], clo_spec 8 _ (by kernel_rfl), told_blk (by kernel_rfl)⟩
    refine (refraction_Refract.run refraction_Radicand refraction_Refract_1 refraction_valid direction_Dot interval_Sign refraction_calc_one_interval_Square refraction_calc_one_interval_Sqrt refraction_calc_one_interval_Neg interval_Sqrt interval_Neg refraction_calc_scale refraction_calc_two_interval_Add refraction_calc_two_interval_Sub refraction_calc_two_interval_Mul refraction_calc_two_interval_Div interval_Sub interval_Mul refraction_calc_sum a0_0 a0_1 a0_2 a0_3 a0_4 a0_5 a1_0 a1_1 a1_2 a1_3 a1_4 a1_5 a2_0 a2_1).trans ?_
    refine (refraction_Refract.nat refraction_Radicand refraction_Refract_1 refraction_valid direction_Dot interval_Sign refraction_calc_one_interval_Square refraction_calc_one_interval_Sqrt refraction_calc_one_interval_Neg interval_Sqrt interval_Neg refraction_calc_scale refraction_calc_two_interval_Add refraction_calc_two_interval_Sub refraction_calc_two_interval_Mul refraction_calc_two_interval_Div interval_Sub interval_Mul refraction_calc_sum a0_0 a0_1 a0_2 a0_3 a0_4 a0_5 a1_0 a1_1 a1_2 a1_3 a1_4 a1_5 a2_0 a2_1 _).trans ?_
    kernel_rfl
  · cases h

/-! ### culet/refraction.Decide (20) -/
def refraction_Decide.K {R : Type} (f_interval_Sign : Int → Int → (Int)) (f_interval_Valid : Int → Int → (Bool)) (a0_0 : Int) (a0_1 : Int) (k : (Int) → R) : R :=
  let t0 := f_interval_Valid a0_0 a0_1
  bif !t0 then
    k (0)
  else
    let t1 := f_interval_Sign a0_0 a0_1
    bif t1 == -1 then
      k (1)
    else
      bif t1 == 1 then
        k (2)
      else
        k (3)
set_option maxRecDepth 100000 in
theorem refraction_Decide.run (f_interval_Sign : Int → Int → (Int)) (f_interval_Valid : Int → Int → (Bool)) (a0_0 : Int) (a0_1 : Int) : xfn Try.prog ⟨[(34, interval_Sign.sp f_interval_Sign), (56, interval_Valid.sp f_interval_Valid)], []⟩ [] 40 Try.f20 [.agg ⟨[.int .i64 a0_0, .int .i64 a0_1]⟩] [] = refraction_Decide.K f_interval_Sign f_interval_Valid a0_0 a0_1 (fun r => some (.int .i64 r, [])) := by kernel_rfl
def refraction_Decide (a0_0 : Int) (a0_1 : Int) : Int := refraction_Decide.K interval_Sign interval_Valid a0_0 a0_1 id
theorem refraction_Decide.nat {R : Type} (f_interval_Sign : Int → Int → (Int)) (f_interval_Valid : Int → Int → (Bool)) (a0_0 : Int) (a0_1 : Int) (k : (Int) → R) : refraction_Decide.K f_interval_Sign f_interval_Valid a0_0 a0_1 k = k (refraction_Decide.K f_interval_Sign f_interval_Valid a0_0 a0_1 id) := by
  simp only [refraction_Decide.K, acond k, id_eq]
theorem refraction_Decide.eq (a b : Int) : refraction_Decide a b = dcd (a, b) := by
  simp only [refraction_Decide, refraction_Decide.K, id_eq, interval_Valid.eq, interval_Sign.eq, dcd, V2]
  cases V a b with
  | false => rfl
  | true =>
    rcases isg_val a b with h | h | h <;> rw [h.1] <;> rfl
theorem refraction_Decide.ok : SOK Try.prog 20 (refraction_Decide.sp refraction_Decide) := by
  refine sok_of (E := ⟨[(34, interval_Sign.sp interval_Sign), (56, interval_Valid.sp interval_Valid)], []⟩) ⟨(specs_cons interval_Sign.ok (specs_cons interval_Valid.ok specs_nil)), inl_nil, mixed_ok⟩ 40 Try.func20 (by decide) rfl no_loops fun vs bl v bl' h => ?_
  unfold refraction_Decide.sp at h
  split at h
  · rename_i a0_0 a0_1
    simp only [Option.some.injEq, Prod.mk.injEq, true_and] at h
    obtain ⟨rfl, rfl⟩ := h
    refine ⟨?_, by simp [okV, Nat.blt], clo_spec 8 _ (by kernel_rfl), told_blk (by kernel_rfl)⟩
    refine (refraction_Decide.run interval_Sign interval_Valid a0_0 a0_1).trans ?_
    refine (refraction_Decide.nat interval_Sign interval_Valid a0_0 a0_1 _).trans ?_
    kernel_rfl
  · cases h

/-! ### culet/refraction.Hits (12) -/
def refraction_Hits.K {R : Type} (f_refraction_Radicand : Int → Int → Int → Int → (Int × Int × Int)) (f_refraction_Decide : Int → Int → (Int)) (f_refraction_valid : Int → Int → Int → Int → Int → Int → Int → Int → Int → Int → Int → Int → Int → Int → (Bool)) (f_direction_Dot : Int → Int → Int → Int → Int → Int → Int → Int → Int → Int → Int → Int → (Int × Int × Int)) (a0_0 : Int) (a0_1 : Int) (a0_2 : Int) (a0_3 : Int) (a0_4 : Int) (a0_5 : Int) (a1_0 : Int) (a1_1 : Int) (a1_2 : Int) (a1_3 : Int) (a1_4 : Int) (a1_5 : Int) (a2_0 : Int) (a2_1 : Int) (k : Int × Int → R) : R :=
  let t0 := f_refraction_valid a0_0 a0_1 a0_2 a0_3 a0_4 a0_5 a1_0 a1_1 a1_2 a1_3 a1_4 a1_5 a2_0 a2_1
  bif !t0 then
    k (0, 1)
  else
    let t1 := f_direction_Dot a0_0 a0_1 a0_2 a0_3 a0_4 a0_5 a1_0 a1_1 a1_2 a1_3 a1_4 a1_5
    bif t1.snd.snd != 0 then
      k (0, t1.snd.snd)
    else
      let t2 := f_refraction_Radicand t1.fst t1.snd.fst a2_0 a2_1
      bif t2.snd.snd != 0 then
        k (0, t2.snd.snd)
      else
        let t3 := f_refraction_Decide t2.fst t2.snd.fst
        k (t3, 0)
set_option maxRecDepth 100000 in
theorem refraction_Hits.run (f_refraction_Radicand : Int → Int → Int → Int → (Int × Int × Int)) (f_refraction_Decide : Int → Int → (Int)) (f_refraction_valid : Int → Int → Int → Int → Int → Int → Int → Int → Int → Int → Int → Int → Int → Int → (Bool)) (f_direction_Dot : Int → Int → Int → Int → Int → Int → Int → Int → Int → Int → Int → Int → (Int × Int × Int)) (a0_0 : Int) (a0_1 : Int) (a0_2 : Int) (a0_3 : Int) (a0_4 : Int) (a0_5 : Int) (a1_0 : Int) (a1_1 : Int) (a1_2 : Int) (a1_3 : Int) (a1_4 : Int) (a1_5 : Int) (a2_0 : Int) (a2_1 : Int) : xfn Try.prog ⟨[(18, refraction_Radicand.sp f_refraction_Radicand), (20, refraction_Decide.sp f_refraction_Decide), (32, refraction_valid.sp f_refraction_valid), (33, direction_Dot.sp f_direction_Dot)], []⟩ [] 40 Try.f12 [.agg ⟨[.int .i64 a0_0, .int .i64 a0_1, .int .i64 a0_2, .int .i64 a0_3, .int .i64 a0_4, .int .i64 a0_5]⟩, .agg ⟨[.int .i64 a1_0, .int .i64 a1_1, .int .i64 a1_2, .int .i64 a1_3, .int .i64 a1_4, .int .i64 a1_5]⟩, .agg ⟨[.int .i64 a2_0, .int .i64 a2_1]⟩] [] = refraction_Hits.K f_refraction_Radicand f_refraction_Decide f_refraction_valid f_direction_Dot a0_0 a0_1 a0_2 a0_3 a0_4 a0_5 a1_0 a1_1 a1_2 a1_3 a1_4 a1_5 a2_0 a2_1 (fun r => some (.tuple ⟨[.int .i64 r.1, .int .i64 r.2]⟩, [])) := by kernel_rfl
def refraction_Hits (a0_0 : Int) (a0_1 : Int) (a0_2 : Int) (a0_3 : Int) (a0_4 : Int) (a0_5 : Int) (a1_0 : Int) (a1_1 : Int) (a1_2 : Int) (a1_3 : Int) (a1_4 : Int) (a1_5 : Int) (a2_0 : Int) (a2_1 : Int) : Int × Int := refraction_Hits.K refraction_Radicand refraction_Decide refraction_valid direction_Dot a0_0 a0_1 a0_2 a0_3 a0_4 a0_5 a1_0 a1_1 a1_2 a1_3 a1_4 a1_5 a2_0 a2_1 id
theorem refraction_Hits.nat {R : Type} (f_refraction_Radicand : Int → Int → Int → Int → (Int × Int × Int)) (f_refraction_Decide : Int → Int → (Int)) (f_refraction_valid : Int → Int → Int → Int → Int → Int → Int → Int → Int → Int → Int → Int → Int → Int → (Bool)) (f_direction_Dot : Int → Int → Int → Int → Int → Int → Int → Int → Int → Int → Int → Int → (Int × Int × Int)) (a0_0 : Int) (a0_1 : Int) (a0_2 : Int) (a0_3 : Int) (a0_4 : Int) (a0_5 : Int) (a1_0 : Int) (a1_1 : Int) (a1_2 : Int) (a1_3 : Int) (a1_4 : Int) (a1_5 : Int) (a2_0 : Int) (a2_1 : Int) (k : Int × Int → R) : refraction_Hits.K f_refraction_Radicand f_refraction_Decide f_refraction_valid f_direction_Dot a0_0 a0_1 a0_2 a0_3 a0_4 a0_5 a1_0 a1_1 a1_2 a1_3 a1_4 a1_5 a2_0 a2_1 k = k (refraction_Hits.K f_refraction_Radicand f_refraction_Decide f_refraction_valid f_direction_Dot a0_0 a0_1 a0_2 a0_3 a0_4 a0_5 a1_0 a1_1 a1_2 a1_3 a1_4 a1_5 a2_0 a2_1 id) := by
  simp only [refraction_Hits.K, acond k, id_eq]
theorem refraction_Hits.eq (a0 a1 a2 a3 a4 a5 b0 b1 b2 b3 b4 b5 r0 r1 : Int) : refraction_Hits a0 a1 a2 a3 a4 a5 b0 b1 b2 b3 b4 b5 r0 r1 = o2 (hit ((a0, a1), (a2, a3), (a4, a5)) ((b0, b1), (b2, b3), (b4, b5)) (r0, r1)) := by
  simp only [refraction_Hits, refraction_Hits.K, id_eq, refraction_valid.eq, direction_Dot.eq, refraction_Radicand.eq, refraction_Decide.eq, hit]
  cases hV0 : VB ((a0, a1), (a2, a3), (a4, a5)) && (VB ((b0, b1), (b2, b3), (b4, b5)) && V2 (r0, r1)) with
  | false =>
    simp only [hV0, st0, kr0, st70, t3_ok, bind_ok, bind_er, o7, o3, o2, o11, V2_mk, kp0, cond_true, cond_false, Bool.not_true, Bool.not_false, Bool.false_and, Bool.and_false, Bool.true_and, Bool.and_true, bne_self_eq_false, beq_self_eq_true, if_true, if_false]
  | true =>
    rcases (ddot_nz ((a0, a1), (a2, a3), (a4, a5)) ((b0, b1), (b2, b3), (b4, b5))).cases with ⟨⟨x0, x1⟩, h0⟩ | ⟨e0, n0, h0⟩
    · simp only [hV0, h0, st0, kr0, st70, t3_ok, bind_ok, bind_er, o7, o3, o2, o11, V2_mk, kp0, cond_true, cond_false, Bool.not_true, Bool.not_false, Bool.false_and, Bool.and_false, Bool.true_and, Bool.and_true, bne_self_eq_false, beq_self_eq_true, if_true, if_false]
      rcases (rdc_nz (x0, x1) (r0, r1)).cases with ⟨⟨q0, q1⟩, h1⟩ | ⟨e1, n1, h1⟩
      · simp only [h1, st0, kr0, st70, t3_ok, bind_ok, bind_er, o7, o3, o2, o11, V2_mk, kp0, cond_true, cond_false, Bool.not_true, Bool.not_false, Bool.false_and, Bool.and_false, Bool.true_and, Bool.and_true, bne_self_eq_false, beq_self_eq_true, if_true, if_false]
      · simp only [h1, stE n1, krE n1, st7E n1, t3_er n1, bne_of n1, beq_of n1, kpn _ n1, st0, kr0, st70, t3_ok, bind_ok, bind_er, o7, o3, o2, o11, V2_mk, kp0, cond_true, cond_false, Bool.not_true, Bool.not_false, Bool.false_and, Bool.and_false, Bool.true_and, Bool.and_true, bne_self_eq_false, beq_self_eq_true, if_true, if_false]
    · simp only [hV0, h0, stE n0, krE n0, st7E n0, t3_er n0, bne_of n0, beq_of n0, kpn _ n0, st0, kr0, st70, t3_ok, bind_ok, bind_er, o7, o3, o2, o11, V2_mk, kp0, cond_true, cond_false, Bool.not_true, Bool.not_false, Bool.false_and, Bool.and_false, Bool.true_and, Bool.and_true, bne_self_eq_false, beq_self_eq_true, if_true, if_false]
theorem refraction_Hits.ok : SOK Try.prog 12 (refraction_Hits.sp refraction_Hits) := by
  refine sok_of (E := ⟨[(18, refraction_Radicand.sp refraction_Radicand), (20, refraction_Decide.sp refraction_Decide), (32, refraction_valid.sp refraction_valid), (33, direction_Dot.sp direction_Dot)], []⟩) ⟨(specs_cons refraction_Radicand.ok (specs_cons refraction_Decide.ok (specs_cons refraction_valid.ok (specs_cons direction_Dot.ok specs_nil)))), inl_nil, mixed_ok⟩ 40 Try.func12 (by decide) rfl no_loops fun vs bl v bl' h => ?_
  unfold refraction_Hits.sp at h
  split at h
  · rename_i a0_0 a0_1 a0_2 a0_3 a0_4 a0_5 a1_0 a1_1 a1_2 a1_3 a1_4 a1_5 a2_0 a2_1
    simp only [Option.some.injEq, Prod.mk.injEq, true_and] at h
    obtain ⟨rfl, rfl⟩ := h
    refine ⟨?_, by simp [okV, Nat.blt], clo_spec 8 _ (by kernel_rfl), told_blk (by kernel_rfl)⟩
    refine (refraction_Hits.run refraction_Radicand refraction_Decide refraction_valid direction_Dot a0_0 a0_1 a0_2 a0_3 a0_4 a0_5 a1_0 a1_1 a1_2 a1_3 a1_4 a1_5 a2_0 a2_1).trans ?_
    refine (refraction_Hits.nat refraction_Radicand refraction_Decide refraction_valid direction_Dot a0_0 a0_1 a0_2 a0_3 a0_4 a0_5 a1_0 a1_1 a1_2 a1_3 a1_4 a1_5 a2_0 a2_1 _).trans ?_
    kernel_rfl
  · cases h

/-! ### culet/refraction.Critical (23) -/
def refraction_Critical.K {R : Type} (f_refraction_calc_one_interval_Square : Int → Int → Int → (Int × Int × Int)) (f_refraction_calc_one_interval_Sqrt : Int → Int → Int → (Int × Int × Int)) (f_refraction_calc_one_interval_Neg : Int → Int → Int → (Int × Int × Int)) (f_interval_Sqrt : Int → Int → (Int × Int × Int)) (f_refraction_calc_two_interval_Add : Int → Int → Int → Int → Int → (Int × Int × Int)) (f_refraction_calc_two_interval_Sub : Int → Int → Int → Int → Int → (Int × Int × Int)) (f_refraction_calc_two_interval_Mul : Int → Int → Int → Int → Int → (Int × Int × Int)) (f_refraction_calc_two_interval_Div : Int → Int → Int → Int → Int → (Int × Int × Int)) (f_interval_Sub : Int → Int → Int → Int → (Int × Int × Int)) (f_interval_Valid : Int → Int → (Bool)) (f_interval_Square : Int → Int → (Int × Int × Int)) (f_refraction_unit : (Int × Int)) (f_interval_Div : Int → Int → Int → Int → (Int × Int × Int)) (a0_0 : Int) (a0_1 : Int) (k : Int × Int × Int → R) : R :=
  let t0 := f_interval_Valid a0_0 a0_1
  bif !t0 then
    k (0, 0, 1)
  else
    bif decide (a0_0 < 16777216) then
      k (0, 0, 2)
    else
      let t1 := f_refraction_calc_one_interval_Square 0 a0_0 a0_1
      let t2 := f_refraction_calc_two_interval_Div t1.snd.snd f_refraction_unit.fst f_refraction_unit.snd t1.fst t1.snd.fst
      let t3 := f_refraction_calc_two_interval_Sub t2.snd.snd f_refraction_unit.fst f_refraction_unit.snd t2.fst t2.snd.fst
      let t4 := f_refraction_calc_one_interval_Sqrt t3.snd.snd t3.fst t3.snd.fst
      bif t4.snd.snd != 0 then
        k (0, 0, t4.snd.snd)
      else
        k (t4.fst, t4.snd.fst, 0)
set_option maxRecDepth 100000 in
theorem refraction_Critical.run (f_refraction_calc_one_interval_Square : Int → Int → Int → (Int × Int × Int)) (f_refraction_calc_one_interval_Sqrt : Int → Int → Int → (Int × Int × Int)) (f_refraction_calc_one_interval_Neg : Int → Int → Int → (Int × Int × Int)) (f_interval_Sqrt : Int → Int → (Int × Int × Int)) (f_refraction_calc_two_interval_Add : Int → Int → Int → Int → Int → (Int × Int × Int)) (f_refraction_calc_two_interval_Sub : Int → Int → Int → Int → Int → (Int × Int × Int)) (f_refraction_calc_two_interval_Mul : Int → Int → Int → Int → Int → (Int × Int × Int)) (f_refraction_calc_two_interval_Div : Int → Int → Int → Int → Int → (Int × Int × Int)) (f_interval_Sub : Int → Int → Int → Int → (Int × Int × Int)) (f_interval_Valid : Int → Int → (Bool)) (f_interval_Square : Int → Int → (Int × Int × Int)) (f_refraction_unit : (Int × Int)) (f_interval_Div : Int → Int → Int → Int → (Int × Int × Int)) (a0_0 : Int) (a0_1 : Int) : xfn Try.prog ⟨[(35, refraction_calc_one.sp f_refraction_calc_one_interval_Square f_refraction_calc_one_interval_Sqrt f_refraction_calc_one_interval_Neg), (36, interval_Sqrt.sp f_interval_Sqrt), (39, refraction_calc_two.sp f_refraction_calc_two_interval_Add f_refraction_calc_two_interval_Sub f_refraction_calc_two_interval_Mul f_refraction_calc_two_interval_Div), (40, interval_Sub.sp f_interval_Sub), (56, interval_Valid.sp f_interval_Valid), (57, interval_Square.sp f_interval_Square), (58, refraction_unit.sp f_refraction_unit), (60, interval_Div.sp f_interval_Div)], []⟩ [] 40 Try.f23 [.agg ⟨[.int .i64 a0_0, .int .i64 a0_1]⟩] [] = refraction_Critical.K f_refraction_calc_one_interval_Square f_refraction_calc_one_interval_Sqrt f_refraction_calc_one_interval_Neg f_interval_Sqrt f_refraction_calc_two_interval_Add f_refraction_calc_two_interval_Sub f_refraction_calc_two_interval_Mul f_refraction_calc_two_interval_Div f_interval_Sub f_interval_Valid f_interval_Square f_refraction_unit f_interval_Div a0_0 a0_1 (fun r => some (.tuple ⟨[.agg ⟨[.int .i64 r.1, .int .i64 r.2.1]⟩, .int .i64 r.2.2]⟩, [])) := by kernel_rfl
def refraction_Critical (a0_0 : Int) (a0_1 : Int) : Int × Int × Int := refraction_Critical.K refraction_calc_one_interval_Square refraction_calc_one_interval_Sqrt refraction_calc_one_interval_Neg interval_Sqrt refraction_calc_two_interval_Add refraction_calc_two_interval_Sub refraction_calc_two_interval_Mul refraction_calc_two_interval_Div interval_Sub interval_Valid interval_Square refraction_unit interval_Div a0_0 a0_1 id
theorem refraction_Critical.nat {R : Type} (f_refraction_calc_one_interval_Square : Int → Int → Int → (Int × Int × Int)) (f_refraction_calc_one_interval_Sqrt : Int → Int → Int → (Int × Int × Int)) (f_refraction_calc_one_interval_Neg : Int → Int → Int → (Int × Int × Int)) (f_interval_Sqrt : Int → Int → (Int × Int × Int)) (f_refraction_calc_two_interval_Add : Int → Int → Int → Int → Int → (Int × Int × Int)) (f_refraction_calc_two_interval_Sub : Int → Int → Int → Int → Int → (Int × Int × Int)) (f_refraction_calc_two_interval_Mul : Int → Int → Int → Int → Int → (Int × Int × Int)) (f_refraction_calc_two_interval_Div : Int → Int → Int → Int → Int → (Int × Int × Int)) (f_interval_Sub : Int → Int → Int → Int → (Int × Int × Int)) (f_interval_Valid : Int → Int → (Bool)) (f_interval_Square : Int → Int → (Int × Int × Int)) (f_refraction_unit : (Int × Int)) (f_interval_Div : Int → Int → Int → Int → (Int × Int × Int)) (a0_0 : Int) (a0_1 : Int) (k : Int × Int × Int → R) : refraction_Critical.K f_refraction_calc_one_interval_Square f_refraction_calc_one_interval_Sqrt f_refraction_calc_one_interval_Neg f_interval_Sqrt f_refraction_calc_two_interval_Add f_refraction_calc_two_interval_Sub f_refraction_calc_two_interval_Mul f_refraction_calc_two_interval_Div f_interval_Sub f_interval_Valid f_interval_Square f_refraction_unit f_interval_Div a0_0 a0_1 k = k (refraction_Critical.K f_refraction_calc_one_interval_Square f_refraction_calc_one_interval_Sqrt f_refraction_calc_one_interval_Neg f_interval_Sqrt f_refraction_calc_two_interval_Add f_refraction_calc_two_interval_Sub f_refraction_calc_two_interval_Mul f_refraction_calc_two_interval_Div f_interval_Sub f_interval_Valid f_interval_Square f_refraction_unit f_interval_Div a0_0 a0_1 id) := by
  simp only [refraction_Critical.K, acond k, id_eq]
theorem refraction_Critical.eq (a b : Int) : refraction_Critical a b = o3 (crt (a, b)) := by
  simp only [refraction_Critical, refraction_Critical.K, id_eq, interval_Valid.eq, refraction_unit.eq, refraction_calc_one_interval_Square.eq, refraction_calc_two_interval_Div.eq, refraction_calc_two_interval_Sub.eq, refraction_calc_one_interval_Sqrt.eq, crt, V2, sqR, divR, subR, rtR, one2]
  cases hV0 : V a b with
  | false =>
    simp only [hV0, st0, kr0, st70, t3_ok, bind_ok, bind_er, o7, o3, o2, o11, V2_mk, kp0, cond_true, cond_false, Bool.not_true, Bool.not_false, Bool.false_and, Bool.and_false, Bool.true_and, Bool.and_true, bne_self_eq_false, beq_self_eq_true, if_true, if_false]
  | true =>
    by_cases h0 : a < 16777216
    · have g0 := decide_eq_true h0
      simp only [hV0, if_pos h0, g0, st0, kr0, st70, t3_ok, bind_ok, bind_er, o7, o3, o2, o11, V2_mk, kp0, cond_true, cond_false, Bool.not_true, Bool.not_false, Bool.false_and, Bool.and_false, Bool.true_and, Bool.and_true, bne_self_eq_false, beq_self_eq_true, if_true, if_false]
    · have g0 := decide_eq_false h0
      simp only [hV0, if_neg h0, g0, st0, kr0, st70, t3_ok, bind_ok, bind_er, o7, o3, o2, o11, V2_mk, kp0, cond_true, cond_false, Bool.not_true, Bool.not_false, Bool.false_and, Bool.and_false, Bool.true_and, Bool.and_true, bne_self_eq_false, beq_self_eq_true, if_true, if_false]
      rcases t3c (isq a b) with ⟨q0, q1, h1⟩ | ⟨q0, q1, e1, n1, h1⟩
      · simp only [h1, st0, kr0, st70, t3_ok, bind_ok, bind_er, o7, o3, o2, o11, V2_mk, kp0, cond_true, cond_false, Bool.not_true, Bool.not_false, Bool.false_and, Bool.and_false, Bool.true_and, Bool.and_true, bne_self_eq_false, beq_self_eq_true, if_true, if_false]
        rcases t3c (idiv 16777216 16777216 q0 q1) with ⟨d0, d1, h2⟩ | ⟨d0, d1, e2, n2, h2⟩
        · simp only [h2, st0, kr0, st70, t3_ok, bind_ok, bind_er, o7, o3, o2, o11, V2_mk, kp0, cond_true, cond_false, Bool.not_true, Bool.not_false, Bool.false_and, Bool.and_false, Bool.true_and, Bool.and_true, bne_self_eq_false, beq_self_eq_true, if_true, if_false]
          rcases t3c (isub 16777216 16777216 d0 d1) with ⟨s0, s1, h3⟩ | ⟨s0, s1, e3, n3, h3⟩
          · simp only [h3, st0, kr0, st70, t3_ok, bind_ok, bind_er, o7, o3, o2, o11, V2_mk, kp0, cond_true, cond_false, Bool.not_true, Bool.not_false, Bool.false_and, Bool.and_false, Bool.true_and, Bool.and_true, bne_self_eq_false, beq_self_eq_true, if_true, if_false]
            rcases t3c (isr s0 s1) with ⟨t0, t1, h4⟩ | ⟨t0, t1, e4, n4, h4⟩
            · simp only [h4, st0, kr0, st70, t3_ok, bind_ok, bind_er, o7, o3, o2, o11, V2_mk, kp0, cond_true, cond_false, Bool.not_true, Bool.not_false, Bool.false_and, Bool.and_false, Bool.true_and, Bool.and_true, bne_self_eq_false, beq_self_eq_true, if_true, if_false]
            · simp only [h4, stE n4, krE n4, st7E n4, t3_er n4, bne_of n4, beq_of n4, kpn _ n4, st0, kr0, st70, t3_ok, bind_ok, bind_er, o7, o3, o2, o11, V2_mk, kp0, cond_true, cond_false, Bool.not_true, Bool.not_false, Bool.false_and, Bool.and_false, Bool.true_and, Bool.and_true, bne_self_eq_false, beq_self_eq_true, if_true, if_false]
          · simp only [h3, stE n3, krE n3, st7E n3, t3_er n3, bne_of n3, beq_of n3, kpn _ n3, st0, kr0, st70, t3_ok, bind_ok, bind_er, o7, o3, o2, o11, V2_mk, kp0, cond_true, cond_false, Bool.not_true, Bool.not_false, Bool.false_and, Bool.and_false, Bool.true_and, Bool.and_true, bne_self_eq_false, beq_self_eq_true, if_true, if_false]
        · simp only [h2, stE n2, krE n2, st7E n2, t3_er n2, bne_of n2, beq_of n2, kpn _ n2, st0, kr0, st70, t3_ok, bind_ok, bind_er, o7, o3, o2, o11, V2_mk, kp0, cond_true, cond_false, Bool.not_true, Bool.not_false, Bool.false_and, Bool.and_false, Bool.true_and, Bool.and_true, bne_self_eq_false, beq_self_eq_true, if_true, if_false]
      · simp only [h1, stE n1, krE n1, st7E n1, t3_er n1, bne_of n1, beq_of n1, kpn _ n1, st0, kr0, st70, t3_ok, bind_ok, bind_er, o7, o3, o2, o11, V2_mk, kp0, cond_true, cond_false, Bool.not_true, Bool.not_false, Bool.false_and, Bool.and_false, Bool.true_and, Bool.and_true, bne_self_eq_false, beq_self_eq_true, if_true, if_false]
theorem refraction_Critical.ok : SOK Try.prog 23 (refraction_Critical.sp refraction_Critical) := by
  refine sok_of (E := ⟨[(35, refraction_calc_one.sp refraction_calc_one_interval_Square refraction_calc_one_interval_Sqrt refraction_calc_one_interval_Neg), (36, interval_Sqrt.sp interval_Sqrt), (39, refraction_calc_two.sp refraction_calc_two_interval_Add refraction_calc_two_interval_Sub refraction_calc_two_interval_Mul refraction_calc_two_interval_Div), (40, interval_Sub.sp interval_Sub), (56, interval_Valid.sp interval_Valid), (57, interval_Square.sp interval_Square), (58, refraction_unit.sp refraction_unit), (60, interval_Div.sp interval_Div)], []⟩) ⟨(specs_cons refraction_calc_one.ok (specs_cons interval_Sqrt.ok (specs_cons refraction_calc_two.ok (specs_cons interval_Sub.ok (specs_cons interval_Valid.ok (specs_cons interval_Square.ok (specs_cons refraction_unit.ok (specs_cons interval_Div.ok specs_nil)))))))), inl_nil, mixed_ok⟩ 40 Try.func23 (by decide) rfl no_loops fun vs bl v bl' h => ?_
  unfold refraction_Critical.sp at h
  split at h
  · rename_i a0_0 a0_1
    simp only [Option.some.injEq, Prod.mk.injEq, true_and] at h
    obtain ⟨rfl, rfl⟩ := h
    refine ⟨?_, by simp [okV, Nat.blt], clo_spec 8 _ (by kernel_rfl), told_blk (by kernel_rfl)⟩
    refine (refraction_Critical.run refraction_calc_one_interval_Square refraction_calc_one_interval_Sqrt refraction_calc_one_interval_Neg interval_Sqrt refraction_calc_two_interval_Add refraction_calc_two_interval_Sub refraction_calc_two_interval_Mul refraction_calc_two_interval_Div interval_Sub interval_Valid interval_Square refraction_unit interval_Div a0_0 a0_1).trans ?_
    refine (refraction_Critical.nat refraction_calc_one_interval_Square refraction_calc_one_interval_Sqrt refraction_calc_one_interval_Neg interval_Sqrt refraction_calc_two_interval_Add refraction_calc_two_interval_Sub refraction_calc_two_interval_Mul refraction_calc_two_interval_Div interval_Sub interval_Valid interval_Square refraction_unit interval_Div a0_0 a0_1 _).trans ?_
    kernel_rfl
  · cases h

/-! ### culet/culetref27.Of (29) -/
def culetref27_Of.K {R : Type} (a0 : Int) (k : Int × Int × Int → R) : R :=
  bif decide (a0 > 64) then
    k (0, 0, 3)
  else
    bif decide (a0 < -64) then
      k (0, 0, 3)
    else
      k (IntKind.i64.wrap (a0 * 16777216), IntKind.i64.wrap (a0 * 16777216), 0)
set_option maxRecDepth 100000 in
theorem culetref27_Of.run (a0 : Int) : xfn Try.prog ⟨[], []⟩ [] 40 Try.f29 [.int .i64 a0] [] = culetref27_Of.K a0 (fun r => some (.tuple ⟨[.agg ⟨[.int .i64 r.1, .int .i64 r.2.1]⟩, .int .i64 r.2.2]⟩, [])) := by kernel_rfl
def culetref27_Of (a0 : Int) : Int × Int × Int := culetref27_Of.K a0 id
theorem culetref27_Of.nat {R : Type} (a0 : Int) (k : Int × Int × Int → R) : culetref27_Of.K a0 k = k (culetref27_Of.K a0 id) := by
  simp only [culetref27_Of.K, acond k, id_eq]
theorem culetref27_Of.ok : SOK Try.prog 29 (culetref27_Of.sp culetref27_Of) := by
  refine sok_of (E := ⟨[], []⟩) ⟨specs_nil, inl_nil, mixed_ok⟩ 40 Try.func29 (by decide) rfl no_loops fun vs bl v bl' h => ?_
  unfold culetref27_Of.sp at h
  split at h
  · rename_i a0
    simp only [Option.some.injEq, Prod.mk.injEq, true_and] at h
    obtain ⟨rfl, rfl⟩ := h
    refine ⟨?_, by simp [okV, Nat.blt], clo_spec 8 _ (by kernel_rfl), told_blk (by kernel_rfl)⟩
    refine (culetref27_Of.run a0).trans ?_
    refine (culetref27_Of.nat a0 _).trans ?_
    kernel_rfl
  · cases h

/-! ### culet/culetref28.One (13) -/
def culetref28_One.K {R : Type} (k : Int × Int → R) : R :=
  k (16777216, 16777216)
set_option maxRecDepth 100000 in
theorem culetref28_One.run : xfn Try.prog ⟨[], []⟩ [] 40 Try.f13 [] [] = culetref28_One.K (fun r => some (.agg ⟨[.int .i64 r.1, .int .i64 r.2]⟩, [])) := by kernel_rfl
def culetref28_One : Int × Int := culetref28_One.K id
theorem culetref28_One.nat {R : Type} (k : Int × Int → R) : culetref28_One.K k = k (culetref28_One.K id) := by
  simp only [culetref28_One.K, acond k, id_eq]
theorem culetref28_One.eq : culetref28_One = (16777216, 16777216) := rfl
theorem culetref28_One.ok : SOK Try.prog 13 (culetref28_One.sp culetref28_One) := by
  refine sok_of (E := ⟨[], []⟩) ⟨specs_nil, inl_nil, mixed_ok⟩ 40 Try.func13 (by decide) rfl no_loops fun vs bl v bl' h => ?_
  unfold culetref28_One.sp at h
  split at h
  · simp only [Option.some.injEq, Prod.mk.injEq, true_and] at h
    obtain ⟨rfl, rfl⟩ := h
    refine ⟨?_, by simp [okV, Nat.blt], clo_spec 8 _ (by kernel_rfl), told_blk (by kernel_rfl)⟩
    refine (culetref28_One.run).trans ?_
    refine (culetref28_One.nat _).trans ?_
    kernel_rfl
  · cases h

/-! ### culet/culetlaw29.up (30) -/
def culetlaw29_up.K {R : Type} (f_culetref28_One : (Int × Int)) (k : Int × Int × Int × Int × Int × Int → R) : R :=
  k (0, 0, 0, 0, f_culetref28_One.fst, f_culetref28_One.snd)
set_option maxRecDepth 100000 in
theorem culetlaw29_up.run (f_culetref28_One : (Int × Int)) : xfn Try.prog ⟨[(13, culetref28_One.sp f_culetref28_One)], []⟩ [] 40 Try.f30 [] [] = culetlaw29_up.K f_culetref28_One (fun r => some (.agg ⟨[.int .i64 r.1, .int .i64 r.2.1, .int .i64 r.2.2.1, .int .i64 r.2.2.2.1, .int .i64 r.2.2.2.2.1, .int .i64 r.2.2.2.2.2]⟩, [])) := by kernel_rfl
def culetlaw29_up : Int × Int × Int × Int × Int × Int := culetlaw29_up.K culetref28_One id
theorem culetlaw29_up.nat {R : Type} (f_culetref28_One : (Int × Int)) (k : Int × Int × Int × Int × Int × Int → R) : culetlaw29_up.K f_culetref28_One k = k (culetlaw29_up.K f_culetref28_One id) := by
  simp only [culetlaw29_up.K, acond k, id_eq]
theorem culetlaw29_up.ok : SOK Try.prog 30 (culetlaw29_up.sp culetlaw29_up) := by
  refine sok_of (E := ⟨[(13, culetref28_One.sp culetref28_One)], []⟩) ⟨(specs_cons culetref28_One.ok specs_nil), inl_nil, mixed_ok⟩ 40 Try.func30 (by decide) rfl no_loops fun vs bl v bl' h => ?_
  unfold culetlaw29_up.sp at h
  split at h
  · simp only [Option.some.injEq, Prod.mk.injEq, true_and] at h
    obtain ⟨rfl, rfl⟩ := h
    refine ⟨?_, by simp [okV, Nat.blt], clo_spec 8 _ (by kernel_rfl), told_blk (by kernel_rfl)⟩
    refine (culetlaw29_up.run culetref28_One).trans ?_
    refine (culetlaw29_up.nat culetref28_One _).trans ?_
    kernel_rfl
  · cases h

/-! ### culet/culetlaw29.awake (8) -/
def culetlaw29_awake.K {R : Type} (f_refraction_Refract : Int → Int → Int → Int → Int → Int → Int → Int → Int → Int → Int → Int → Int → Int → (Int × Int × Int × Int × Int × Int × Int × Int × Int × Int × Int)) (f_refraction_Hits : Int → Int → Int → Int → Int → Int → Int → Int → Int → Int → Int → Int → Int → Int → (Int × Int)) (f_refraction_Critical : Int → Int → (Int × Int × Int)) (f_culetref27_Of : Int → (Int × Int × Int)) (f_culetlaw29_up : (Int × Int × Int × Int × Int × Int)) (k : (Bool) → R) : R :=
  let t0 := f_culetref27_Of 2
  let t1 := f_refraction_Hits f_culetlaw29_up.fst f_culetlaw29_up.snd.fst f_culetlaw29_up.snd.snd.fst f_culetlaw29_up.snd.snd.snd.fst f_culetlaw29_up.snd.snd.snd.snd.fst f_culetlaw29_up.snd.snd.snd.snd.snd f_culetlaw29_up.fst f_culetlaw29_up.snd.fst f_culetlaw29_up.snd.snd.fst f_culetlaw29_up.snd.snd.snd.fst f_culetlaw29_up.snd.snd.snd.snd.fst f_culetlaw29_up.snd.snd.snd.snd.snd t0.fst t0.snd.fst
  bif t1.snd == 0 then
    let t2 := f_refraction_Refract f_culetlaw29_up.fst f_culetlaw29_up.snd.fst f_culetlaw29_up.snd.snd.fst f_culetlaw29_up.snd.snd.snd.fst f_culetlaw29_up.snd.snd.snd.snd.fst f_culetlaw29_up.snd.snd.snd.snd.snd f_culetlaw29_up.fst f_culetlaw29_up.snd.fst f_culetlaw29_up.snd.snd.fst f_culetlaw29_up.snd.snd.snd.fst f_culetlaw29_up.snd.snd.snd.snd.fst f_culetlaw29_up.snd.snd.snd.snd.snd t0.fst t0.snd.fst
    bif t2.snd.snd.snd.snd.snd.snd.snd.snd.snd.snd == 0 then
      let t3 := f_refraction_Critical t0.fst t0.snd.fst
      bif t3.snd.snd == 0 then
        bif t1.fst == 2 then
          bif t2.fst == f_culetlaw29_up.fst && t2.snd.fst == f_culetlaw29_up.snd.fst && (t2.snd.snd.fst == f_culetlaw29_up.snd.snd.fst && t2.snd.snd.snd.fst == f_culetlaw29_up.snd.snd.snd.fst && (t2.snd.snd.snd.snd.fst == f_culetlaw29_up.snd.snd.snd.snd.fst && t2.snd.snd.snd.snd.snd.fst == f_culetlaw29_up.snd.snd.snd.snd.snd)) then
            bif t3.fst == 14529495 then
              k (t3.snd.fst == 14529496)
            else
              k (false)
          else
            k (false)
        else
          k (false)
      else
        k (false)
    else
      k (false)
  else
    k (false)
set_option maxRecDepth 100000 in
theorem culetlaw29_awake.run (f_refraction_Refract : Int → Int → Int → Int → Int → Int → Int → Int → Int → Int → Int → Int → Int → Int → (Int × Int × Int × Int × Int × Int × Int × Int × Int × Int × Int)) (f_refraction_Hits : Int → Int → Int → Int → Int → Int → Int → Int → Int → Int → Int → Int → Int → Int → (Int × Int)) (f_refraction_Critical : Int → Int → (Int × Int × Int)) (f_culetref27_Of : Int → (Int × Int × Int)) (f_culetlaw29_up : (Int × Int × Int × Int × Int × Int)) : xfn Try.prog ⟨[(9, refraction_Refract.sp f_refraction_Refract), (12, refraction_Hits.sp f_refraction_Hits), (23, refraction_Critical.sp f_refraction_Critical), (29, culetref27_Of.sp f_culetref27_Of), (30, culetlaw29_up.sp f_culetlaw29_up)], []⟩ [] 40 Try.f8 [] [] = culetlaw29_awake.K f_refraction_Refract f_refraction_Hits f_refraction_Critical f_culetref27_Of f_culetlaw29_up (fun r => some (.bool r, [])) := by kernel_rfl
def culetlaw29_awake : Bool := culetlaw29_awake.K refraction_Refract refraction_Hits refraction_Critical culetref27_Of culetlaw29_up id
theorem culetlaw29_awake.nat {R : Type} (f_refraction_Refract : Int → Int → Int → Int → Int → Int → Int → Int → Int → Int → Int → Int → Int → Int → (Int × Int × Int × Int × Int × Int × Int × Int × Int × Int × Int)) (f_refraction_Hits : Int → Int → Int → Int → Int → Int → Int → Int → Int → Int → Int → Int → Int → Int → (Int × Int)) (f_refraction_Critical : Int → Int → (Int × Int × Int)) (f_culetref27_Of : Int → (Int × Int × Int)) (f_culetlaw29_up : (Int × Int × Int × Int × Int × Int)) (k : (Bool) → R) : culetlaw29_awake.K f_refraction_Refract f_refraction_Hits f_refraction_Critical f_culetref27_Of f_culetlaw29_up k = k (culetlaw29_awake.K f_refraction_Refract f_refraction_Hits f_refraction_Critical f_culetref27_Of f_culetlaw29_up id) := by
  simp only [culetlaw29_awake.K, acond k, id_eq]
theorem awake_true : culetlaw29_awake = true := by kernel_rfl
theorem culetlaw29_awake.ok : SOK Try.prog 8 (culetlaw29_awake.sp culetlaw29_awake) := by
  refine sok_of (E := ⟨[(9, refraction_Refract.sp refraction_Refract), (12, refraction_Hits.sp refraction_Hits), (23, refraction_Critical.sp refraction_Critical), (29, culetref27_Of.sp culetref27_Of), (30, culetlaw29_up.sp culetlaw29_up)], []⟩) ⟨(specs_cons refraction_Refract.ok (specs_cons refraction_Hits.ok (specs_cons refraction_Critical.ok (specs_cons culetref27_Of.ok (specs_cons culetlaw29_up.ok specs_nil))))), inl_nil, mixed_ok⟩ 40 Try.func8 (by decide) rfl no_loops fun vs bl v bl' h => ?_
  unfold culetlaw29_awake.sp at h
  split at h
  · simp only [Option.some.injEq, Prod.mk.injEq, true_and] at h
    obtain ⟨rfl, rfl⟩ := h
    refine ⟨?_, by simp [okV, Nat.blt], clo_spec 8 _ (by kernel_rfl), told_blk (by kernel_rfl)⟩
    refine (culetlaw29_awake.run refraction_Refract refraction_Hits refraction_Critical culetref27_Of culetlaw29_up).trans ?_
    refine (culetlaw29_awake.nat refraction_Refract refraction_Hits refraction_Critical culetref27_Of culetlaw29_up _).trans ?_
    kernel_rfl
  · cases h

/-! ### culet/culetref27.Valid (26) -/
def culetref27_Valid.K {R : Type} (a0_0 : Int) (a0_1 : Int) (k : (Bool) → R) : R :=
  bif decide (-1073741824 ≤ a0_0) then
    bif decide (a0_0 ≤ a0_1) then
      k (decide (a0_1 ≤ 1073741824))
    else
      k (false)
  else
    k (false)
set_option maxRecDepth 100000 in
theorem culetref27_Valid.run (a0_0 : Int) (a0_1 : Int) : xfn Try.prog ⟨[], []⟩ [] 40 Try.f26 [.agg ⟨[.int .i64 a0_0, .int .i64 a0_1]⟩] [] = culetref27_Valid.K a0_0 a0_1 (fun r => some (.bool r, [])) := by kernel_rfl
def culetref27_Valid (a0_0 : Int) (a0_1 : Int) : Bool := culetref27_Valid.K a0_0 a0_1 id
theorem culetref27_Valid.nat {R : Type} (a0_0 : Int) (a0_1 : Int) (k : (Bool) → R) : culetref27_Valid.K a0_0 a0_1 k = k (culetref27_Valid.K a0_0 a0_1 id) := by
  simp only [culetref27_Valid.K, acond k, id_eq]
theorem culetref27_Valid.eq (a b : Int) : culetref27_Valid a b = V a b := by
  simp only [culetref27_Valid, culetref27_Valid.K, id_eq, V]
  by_cases h1 : -1073741824 ≤ a <;> by_cases h2 : a ≤ b <;> by_cases h3 : b ≤ 1073741824 <;> simp [h1, h2, h3]
theorem culetref27_Valid.ok : SOK Try.prog 26 (culetref27_Valid.sp culetref27_Valid) := by
  refine sok_of (E := ⟨[], []⟩) ⟨specs_nil, inl_nil, mixed_ok⟩ 40 Try.func26 (by decide) rfl no_loops fun vs bl v bl' h => ?_
  unfold culetref27_Valid.sp at h
  split at h
  · rename_i a0_0 a0_1
    simp only [Option.some.injEq, Prod.mk.injEq, true_and] at h
    obtain ⟨rfl, rfl⟩ := h
    refine ⟨?_, by simp [okV, Nat.blt], clo_spec 8 _ (by kernel_rfl), told_blk (by kernel_rfl)⟩
    refine (culetref27_Valid.run a0_0 a0_1).trans ?_
    refine (culetref27_Valid.nat a0_0 a0_1 _).trans ?_
    kernel_rfl
  · cases h

/-! ### (*culet/culetref28.Calc).kept (79) -/
def culetref28_Calc_kept.K {R : Type} (s0_0 : Int) (a1_0 : Int) (a1_1 : Int) (a2 : Int) (k : Int × Int × Int → R) : R :=
  bif s0_0 == 0 then
    k (a1_0, a1_1, a2)
  else
    k (a1_0, a1_1, s0_0)
set_option maxRecDepth 100000 in
theorem culetref28_Calc_kept.run (s0_0 : Int) (a1_0 : Int) (a1_1 : Int) (a2 : Int) : xfn Try.prog ⟨[], []⟩ [] 40 Try.f79 [.pointer (some ⟨0, 0, none⟩), .agg ⟨[.int .i64 a1_0, .int .i64 a1_1]⟩, .int .i64 a2] [.cs [.int .i64 s0_0] 71] = culetref28_Calc_kept.K s0_0 a1_0 a1_1 a2 (fun r => some (.agg ⟨[.int .i64 r.1, .int .i64 r.2.1]⟩, [.cs [.int .i64 r.2.2] 71])) := by kernel_rfl
def culetref28_Calc_kept (s0_0 : Int) (a1_0 : Int) (a1_1 : Int) (a2 : Int) : Int × Int × Int := culetref28_Calc_kept.K s0_0 a1_0 a1_1 a2 id
theorem culetref28_Calc_kept.nat {R : Type} (s0_0 : Int) (a1_0 : Int) (a1_1 : Int) (a2 : Int) (k : Int × Int × Int → R) : culetref28_Calc_kept.K s0_0 a1_0 a1_1 a2 k = k (culetref28_Calc_kept.K s0_0 a1_0 a1_1 a2 id) := by
  simp only [culetref28_Calc_kept.K, acond k, id_eq]
theorem kept_eq (s a b e : Int) : culetref28_Calc_kept s a b e = (a, b, kp s e) := by
  simp only [culetref28_Calc_kept, culetref28_Calc_kept.K, id_eq, kp]
  cases s == 0 <;> rfl
theorem culetref28_Calc_kept.ok : SOK Try.prog 79 (culetref28_Calc_kept.sp culetref28_Calc_kept) := by
  refine sok_of (E := ⟨[], []⟩) ⟨specs_nil, inl_nil, mixed_ok⟩ 40 Try.func79 (by decide) rfl no_loops fun vs bl v bl' h => ?_
  unfold culetref28_Calc_kept.sp at h
  split at h
  · rename_i a1_0 a1_1 a2 s0_0
    simp only [Option.some.injEq, Prod.mk.injEq, true_and] at h
    obtain ⟨rfl, rfl⟩ := h
    refine ⟨?_, by simp [okV, Nat.blt], clo_spec 8 _ (by kernel_rfl), told_blk (by kernel_rfl)⟩
    refine (culetref28_Calc_kept.run s0_0 a1_0 a1_1 a2).trans ?_
    refine (culetref28_Calc_kept.nat s0_0 a1_0 a1_1 a2 _).trans ?_
    kernel_rfl
  · cases h

/-! ### culet/culetref27.both (64) -/
def culetref27_both.K {R : Type} (f_culetref27_Valid : Int → Int → (Bool)) (a0_0 : Int) (a0_1 : Int) (a1_0 : Int) (a1_1 : Int) (k : (Bool) → R) : R :=
  let t0 := f_culetref27_Valid a0_0 a0_1
  bif t0 then
    let t1 := f_culetref27_Valid a1_0 a1_1
    k (t1)
  else
    k (false)
set_option maxRecDepth 100000 in
theorem culetref27_both.run (f_culetref27_Valid : Int → Int → (Bool)) (a0_0 : Int) (a0_1 : Int) (a1_0 : Int) (a1_1 : Int) : xfn Try.prog ⟨[(26, culetref27_Valid.sp f_culetref27_Valid)], []⟩ [] 40 Try.f64 [.agg ⟨[.int .i64 a0_0, .int .i64 a0_1]⟩, .agg ⟨[.int .i64 a1_0, .int .i64 a1_1]⟩] [] = culetref27_both.K f_culetref27_Valid a0_0 a0_1 a1_0 a1_1 (fun r => some (.bool r, [])) := by kernel_rfl
def culetref27_both (a0_0 : Int) (a0_1 : Int) (a1_0 : Int) (a1_1 : Int) : Bool := culetref27_both.K culetref27_Valid a0_0 a0_1 a1_0 a1_1 id
theorem culetref27_both.nat {R : Type} (f_culetref27_Valid : Int → Int → (Bool)) (a0_0 : Int) (a0_1 : Int) (a1_0 : Int) (a1_1 : Int) (k : (Bool) → R) : culetref27_both.K f_culetref27_Valid a0_0 a0_1 a1_0 a1_1 k = k (culetref27_both.K f_culetref27_Valid a0_0 a0_1 a1_0 a1_1 id) := by
  simp only [culetref27_both.K, acond k, id_eq]
theorem culetref27_both.eq (a b c d : Int) : culetref27_both a b c d = (V a b && V c d) := by
  simp only [culetref27_both, culetref27_both.K, id_eq, culetref27_Valid.eq]
  cases V a b <;> simp
theorem culetref27_both.ok : SOK Try.prog 64 (culetref27_both.sp culetref27_both) := by
  refine sok_of (E := ⟨[(26, culetref27_Valid.sp culetref27_Valid)], []⟩) ⟨(specs_cons culetref27_Valid.ok specs_nil), inl_nil, mixed_ok⟩ 40 Try.func64 (by decide) rfl no_loops fun vs bl v bl' h => ?_
  unfold culetref27_both.sp at h
  split at h
  · rename_i a0_0 a0_1 a1_0 a1_1
    simp only [Option.some.injEq, Prod.mk.injEq, true_and] at h
    obtain ⟨rfl, rfl⟩ := h
    refine ⟨?_, by simp [okV, Nat.blt], clo_spec 8 _ (by kernel_rfl), told_blk (by kernel_rfl)⟩
    refine (culetref27_both.run culetref27_Valid a0_0 a0_1 a1_0 a1_1).trans ?_
    refine (culetref27_both.nat culetref27_Valid a0_0 a0_1 a1_0 a1_1 _).trans ?_
    kernel_rfl
  · cases h

/-! ### culet/culetref27.checked (85) -/
def culetref27_checked.K {R : Type} (f_culetref27_Valid : Int → Int → (Bool)) (a0 : Int) (a1 : Int) (k : Int × Int × Int → R) : R :=
  let t0 := f_culetref27_Valid a0 a1
  bif !t0 then
    k (0, 0, 3)
  else
    k (a0, a1, 0)
set_option maxRecDepth 100000 in
theorem culetref27_checked.run (f_culetref27_Valid : Int → Int → (Bool)) (a0 : Int) (a1 : Int) : xfn Try.prog ⟨[(26, culetref27_Valid.sp f_culetref27_Valid)], []⟩ [] 40 Try.f85 [.int .i64 a0, .int .i64 a1] [] = culetref27_checked.K f_culetref27_Valid a0 a1 (fun r => some (.tuple ⟨[.agg ⟨[.int .i64 r.1, .int .i64 r.2.1]⟩, .int .i64 r.2.2]⟩, [])) := by kernel_rfl
def culetref27_checked (a0 : Int) (a1 : Int) : Int × Int × Int := culetref27_checked.K culetref27_Valid a0 a1 id
theorem culetref27_checked.nat {R : Type} (f_culetref27_Valid : Int → Int → (Bool)) (a0 : Int) (a1 : Int) (k : Int × Int × Int → R) : culetref27_checked.K f_culetref27_Valid a0 a1 k = k (culetref27_checked.K f_culetref27_Valid a0 a1 id) := by
  simp only [culetref27_checked.K, acond k, id_eq]
theorem culetref27_checked.eq (a b : Int) : culetref27_checked a b = chk a b := by
  simp only [culetref27_checked, culetref27_checked.K, id_eq, culetref27_Valid.eq, chk]
  cases V a b <;> simp
theorem culetref27_checked.ok : SOK Try.prog 85 (culetref27_checked.sp culetref27_checked) := by
  refine sok_of (E := ⟨[(26, culetref27_Valid.sp culetref27_Valid)], []⟩) ⟨(specs_cons culetref27_Valid.ok specs_nil), inl_nil, mixed_ok⟩ 40 Try.func85 (by decide) rfl no_loops fun vs bl v bl' h => ?_
  unfold culetref27_checked.sp at h
  split at h
  · rename_i a0 a1
    simp only [Option.some.injEq, Prod.mk.injEq, true_and] at h
    obtain ⟨rfl, rfl⟩ := h
    refine ⟨?_, by simp [okV, Nat.blt], clo_spec 8 _ (by kernel_rfl), told_blk (by kernel_rfl)⟩
    refine (culetref27_checked.run culetref27_Valid a0 a1).trans ?_
    refine (culetref27_checked.nat culetref27_Valid a0 a1 _).trans ?_
    kernel_rfl
  · cases h

/-! ### culet/culetref27.Sub (82) -/
def culetref27_Sub.K {R : Type} (f_culetref27_both : Int → Int → Int → Int → (Bool)) (f_culetref27_checked : Int → Int → (Int × Int × Int)) (a0_0 : Int) (a0_1 : Int) (a1_0 : Int) (a1_1 : Int) (k : Int × Int × Int → R) : R :=
  let t0 := f_culetref27_both a0_0 a0_1 a1_0 a1_1
  bif !t0 then
    k (0, 0, 1)
  else
    let t1 := f_culetref27_checked (IntKind.i64.wrap (a0_0 - a1_1)) (IntKind.i64.wrap (a0_1 - a1_0))
    k (t1.fst, t1.snd.fst, t1.snd.snd)
set_option maxRecDepth 100000 in
theorem culetref27_Sub.run (f_culetref27_both : Int → Int → Int → Int → (Bool)) (f_culetref27_checked : Int → Int → (Int × Int × Int)) (a0_0 : Int) (a0_1 : Int) (a1_0 : Int) (a1_1 : Int) : xfn Try.prog ⟨[(64, culetref27_both.sp f_culetref27_both), (85, culetref27_checked.sp f_culetref27_checked)], []⟩ [] 40 Try.f82 [.agg ⟨[.int .i64 a0_0, .int .i64 a0_1]⟩, .agg ⟨[.int .i64 a1_0, .int .i64 a1_1]⟩] [] = culetref27_Sub.K f_culetref27_both f_culetref27_checked a0_0 a0_1 a1_0 a1_1 (fun r => some (.tuple ⟨[.agg ⟨[.int .i64 r.1, .int .i64 r.2.1]⟩, .int .i64 r.2.2]⟩, [])) := by kernel_rfl
def culetref27_Sub (a0_0 : Int) (a0_1 : Int) (a1_0 : Int) (a1_1 : Int) : Int × Int × Int := culetref27_Sub.K culetref27_both culetref27_checked a0_0 a0_1 a1_0 a1_1 id
theorem culetref27_Sub.nat {R : Type} (f_culetref27_both : Int → Int → Int → Int → (Bool)) (f_culetref27_checked : Int → Int → (Int × Int × Int)) (a0_0 : Int) (a0_1 : Int) (a1_0 : Int) (a1_1 : Int) (k : Int × Int × Int → R) : culetref27_Sub.K f_culetref27_both f_culetref27_checked a0_0 a0_1 a1_0 a1_1 k = k (culetref27_Sub.K f_culetref27_both f_culetref27_checked a0_0 a0_1 a1_0 a1_1 id) := by
  simp only [culetref27_Sub.K, acond k, id_eq]
theorem culetref27_Sub.eq (a b c d : Int) : culetref27_Sub a b c d = isub a b c d := by
  simp only [culetref27_Sub, culetref27_Sub.K, id_eq, culetref27_both.eq, isub]
  cases h : V a b && V c d with
  | false => simp
  | true =>
    have h' := h
    rw [Bool.and_eq_true] at h'
    have := V_iff.1 h'.1
    have := V_iff.1 h'.2
    rw [w64 (by omega) (by omega), w64 (by omega) (by omega), culetref27_checked.eq]
    simp
theorem culetref27_Sub.ok : SOK Try.prog 82 (culetref27_Sub.sp culetref27_Sub) := by
  refine sok_of (E := ⟨[(64, culetref27_both.sp culetref27_both), (85, culetref27_checked.sp culetref27_checked)], []⟩) ⟨(specs_cons culetref27_both.ok (specs_cons culetref27_checked.ok specs_nil)), inl_nil, mixed_ok⟩ 40 Try.func82 (by decide) rfl no_loops fun vs bl v bl' h => ?_
  unfold culetref27_Sub.sp at h
  split at h
  · rename_i a0_0 a0_1 a1_0 a1_1
    simp only [Option.some.injEq, Prod.mk.injEq, true_and] at h
    obtain ⟨rfl, rfl⟩ := h
    refine ⟨?_, by simp [okV, Nat.blt], clo_spec 8 _ (by kernel_rfl), told_blk (by kernel_rfl)⟩
    refine (culetref27_Sub.run culetref27_both culetref27_checked a0_0 a0_1 a1_0 a1_1).trans ?_
    refine (culetref27_Sub.nat culetref27_both culetref27_checked a0_0 a0_1 a1_0 a1_1 _).trans ?_
    kernel_rfl
  · cases h

/-! ### (*culet/culetref28.Calc).Sub (48) -/
def culetref28_Calc_Sub.K {R : Type} (f_culetref28_Calc_kept : Int → Int → Int → Int → (Int × Int × Int)) (f_culetref27_Sub : Int → Int → Int → Int → (Int × Int × Int)) (s0_0 : Int) (a1_0 : Int) (a1_1 : Int) (a2_0 : Int) (a2_1 : Int) (k : Int × Int × Int → R) : R :=
  let t0 := f_culetref27_Sub a1_0 a1_1 a2_0 a2_1
  let t1 := f_culetref28_Calc_kept s0_0 t0.fst t0.snd.fst t0.snd.snd
  k (t1.fst, t1.snd.fst, t1.snd.snd)
set_option maxRecDepth 100000 in
theorem culetref28_Calc_Sub.run (f_culetref28_Calc_kept : Int → Int → Int → Int → (Int × Int × Int)) (f_culetref27_Sub : Int → Int → Int → Int → (Int × Int × Int)) (s0_0 : Int) (a1_0 : Int) (a1_1 : Int) (a2_0 : Int) (a2_1 : Int) : xfn Try.prog ⟨[(79, culetref28_Calc_kept.sp f_culetref28_Calc_kept), (82, culetref27_Sub.sp f_culetref27_Sub)], []⟩ [] 40 Try.f48 [.pointer (some ⟨0, 0, none⟩), .agg ⟨[.int .i64 a1_0, .int .i64 a1_1]⟩, .agg ⟨[.int .i64 a2_0, .int .i64 a2_1]⟩] [.cs [.int .i64 s0_0] 71] = culetref28_Calc_Sub.K f_culetref28_Calc_kept f_culetref27_Sub s0_0 a1_0 a1_1 a2_0 a2_1 (fun r => some (.agg ⟨[.int .i64 r.1, .int .i64 r.2.1]⟩, [.cs [.int .i64 r.2.2] 71])) := by kernel_rfl
def culetref28_Calc_Sub (s0_0 : Int) (a1_0 : Int) (a1_1 : Int) (a2_0 : Int) (a2_1 : Int) : Int × Int × Int := culetref28_Calc_Sub.K culetref28_Calc_kept culetref27_Sub s0_0 a1_0 a1_1 a2_0 a2_1 id
theorem culetref28_Calc_Sub.nat {R : Type} (f_culetref28_Calc_kept : Int → Int → Int → Int → (Int × Int × Int)) (f_culetref27_Sub : Int → Int → Int → Int → (Int × Int × Int)) (s0_0 : Int) (a1_0 : Int) (a1_1 : Int) (a2_0 : Int) (a2_1 : Int) (k : Int × Int × Int → R) : culetref28_Calc_Sub.K f_culetref28_Calc_kept f_culetref27_Sub s0_0 a1_0 a1_1 a2_0 a2_1 k = k (culetref28_Calc_Sub.K f_culetref28_Calc_kept f_culetref27_Sub s0_0 a1_0 a1_1 a2_0 a2_1 id) := by
  simp only [culetref28_Calc_Sub.K, acond k, id_eq]
theorem culetref28_Calc_Sub.eq (s a b c d : Int) : culetref28_Calc_Sub s a b c d = kr s (isub a b c d) := by
  simp only [culetref28_Calc_Sub, culetref28_Calc_Sub.K, id_eq, culetref27_Sub.eq, kept_eq, kr]
theorem culetref28_Calc_Sub.ok : SOK Try.prog 48 (culetref28_Calc_Sub.sp culetref28_Calc_Sub) := by
  refine sok_of (E := ⟨[(79, culetref28_Calc_kept.sp culetref28_Calc_kept), (82, culetref27_Sub.sp culetref27_Sub)], []⟩) ⟨(specs_cons culetref28_Calc_kept.ok (specs_cons culetref27_Sub.ok specs_nil)), inl_nil, mixed_ok⟩ 40 Try.func48 (by decide) rfl no_loops fun vs bl v bl' h => ?_
  unfold culetref28_Calc_Sub.sp at h
  split at h
  · rename_i a1_0 a1_1 a2_0 a2_1 s0_0
    simp only [Option.some.injEq, Prod.mk.injEq, true_and] at h
    obtain ⟨rfl, rfl⟩ := h
    refine ⟨?_, by simp [okV, Nat.blt], clo_spec 8 _ (by kernel_rfl), told_blk (by kernel_rfl)⟩
    refine (culetref28_Calc_Sub.run culetref28_Calc_kept culetref27_Sub s0_0 a1_0 a1_1 a2_0 a2_1).trans ?_
    refine (culetref28_Calc_Sub.nat culetref28_Calc_kept culetref27_Sub s0_0 a1_0 a1_1 a2_0 a2_1 _).trans ?_
    kernel_rfl
  · cases h

/-! ### culet/culetref27.floor (91) -/
def culetref27_floor.K {R : Type} (a0 : Int) (a1 : Int) (k : (Int) → Option R) : Option R :=
  bif decide (a1 < 0) then
    bif IntKind.i64.wrap (0 - a1) != 0 then
      bif decide (IntKind.i64.wrap (IntKind.i64.wrap ((IntKind.i64.wrap (0 - a0)).tdiv (IntKind.i64.wrap (0 - a1))) * IntKind.i64.wrap (0 - a1)) > IntKind.i64.wrap (0 - a0)) then
        k (IntKind.i64.wrap (IntKind.i64.wrap ((IntKind.i64.wrap (0 - a0)).tdiv (IntKind.i64.wrap (0 - a1))) - 1))
      else
        k (IntKind.i64.wrap ((IntKind.i64.wrap (0 - a0)).tdiv (IntKind.i64.wrap (0 - a1))))
    else
      none
  else
    bif a1 != 0 then
      bif decide (IntKind.i64.wrap (IntKind.i64.wrap (a0.tdiv a1) * a1) > a0) then
        k (IntKind.i64.wrap (IntKind.i64.wrap (a0.tdiv a1) - 1))
      else
        k (IntKind.i64.wrap (a0.tdiv a1))
    else
      none
set_option maxRecDepth 100000 in
theorem culetref27_floor.run (a0 : Int) (a1 : Int) : xfn Try.prog ⟨[], []⟩ [] 40 Try.f91 [.int .i64 a0, .int .i64 a1] [] = culetref27_floor.K a0 a1 (fun r => some (.int .i64 r, [])) := by kernel_rfl
def culetref27_floor.o (a0 : Int) (a1 : Int) : Option (Int) := culetref27_floor.K a0 a1 some
def culetref27_floor.pre (a0 : Int) (a1 : Int) : Bool := (culetref27_floor.o a0 a1).isSome
def culetref27_floor (a0 : Int) (a1 : Int) : Int := (culetref27_floor.o a0 a1).getD default
theorem culetref27_floor.nat {R : Type} (a0 : Int) (a1 : Int) (k : (Int) → Option R) : culetref27_floor.K a0 a1 k = (culetref27_floor.K a0 a1 some).bind k := by
  simp only [culetref27_floor.K, bcond, Option.bind_some, Option.bind_none]
theorem ref_floor_pos {a b : Int} (hb : 0 < b) (h1 : -4611686018427387904 ≤ a) (h2 : a ≤ 4611686018427387904) : (bif decide (IntKind.i64.wrap (IntKind.i64.wrap (a.tdiv b) * b) > a) then some (IntKind.i64.wrap (IntKind.i64.wrap (a.tdiv b) - 1)) else some (IntKind.i64.wrap (a.tdiv b))) = some (a / b) := by
  have hq := tdiv_bnd hb h1 h2
  have hd : a.tdiv b = a / b + if 0 ≤ a ∨ b ∣ a then 0 else b.sign := Int.tdiv_eq_ediv
  rw [Int.sign_eq_one_of_pos hb] at hd
  have hs := fl_spec (x := a) hb
  by_cases hv : 0 ≤ a ∨ b ∣ a
  · simp only [hv, if_true, Int.add_zero] at hd
    rw [hd, w64 (n := a / b) (by omega) (by omega)]
    by_cases ha : 0 ≤ a
    · have : 0 ≤ a / b * b := Int.mul_nonneg (fl_nonneg hb ha) (by omega)
      rw [w64 (n := a / b * b) (by omega) (by omega), decide_eq_false (by omega)]
      rfl
    · have hv' : b ∣ a := by rcases hv with h | h; exact absurd h ha; exact h
      have : a / b * b = a := Int.ediv_mul_cancel hv'
      rw [this, w64 (n := a) (by omega) (by omega), decide_eq_false (by omega)]
      rfl
  · simp only [hv, if_false] at hd
    have ha : a < 0 := by omega
    have h0 : a / b < 0 := by
      have := hs.2
      by_cases h : a / b < 0
      · exact h
      · have : 0 ≤ a / b * b := Int.mul_nonneg (by omega) (by omega)
        omega
    have e : (a / b + 1) * b = a / b * b + b := by rw [Int.add_mul, Int.one_mul]
    have h3 : (a / b + 1) * b ≤ 0 := by
      have := Int.mul_nonneg (a := -(a / b + 1)) (b := b) (by omega) (by omega)
      rw [Int.neg_mul] at this
      omega
    rw [hd, w64 (n := a / b + 1) (by omega) (by omega), w64 (n := (a / b + 1) * b) (by omega) (by omega), decide_eq_true (by omega), cond_true, Int.add_sub_cancel, w64 (by omega) (by omega)]
theorem culetref27_floor.eq {a b : Int} (hb : 0 < b) (h1 : -4611686018427387904 ≤ a) (h2 : a ≤ 4611686018427387904) : culetref27_floor a b = a / b := by
  have hb0 : (b != 0) = true := by simp; omega
  have h3 : ¬ b < 0 := by omega
  simp only [culetref27_floor, culetref27_floor.o, culetref27_floor.K, hb0, h3, decide_false, cond_false, cond_true, ref_floor_pos hb h1 h2]
  rfl
theorem culetref27_floor.eqn {a b : Int} (hb : b < 0) (hb' : -4611686018427387904 ≤ b) (h1 : -4611686018427387904 ≤ a) (h2 : a ≤ 4611686018427387904) : culetref27_floor a b = -a / -b := by
  have hb0 : (-b != 0) = true := by simp; omega
  have w1 : IntKind.i64.wrap (0 - a) = -a := by rw [Int.zero_sub]; exact w64 (by omega) (by omega)
  have w2 : IntKind.i64.wrap (0 - b) = -b := by rw [Int.zero_sub]; exact w64 (by omega) (by omega)
  simp only [culetref27_floor, culetref27_floor.o, culetref27_floor.K, w1, w2, hb0, hb, decide_true, cond_false, cond_true, ref_floor_pos (a := -a) (b := -b) (by omega) (by omega) (by omega)]
  rfl
theorem culetref27_floor.ok : SOK Try.prog 91 (culetref27_floor.sp culetref27_floor) := by
  refine sok_of (E := ⟨[], []⟩) ⟨specs_nil, inl_nil, mixed_ok⟩ 40 Try.func91 (by decide) rfl no_loops fun vs bl v bl' h => ?_
  unfold culetref27_floor.sp at h
  split at h
  · rename_i a0 a1
    simp only [Option.some.injEq, Prod.mk.injEq] at h
    obtain ⟨hp, rfl, rfl⟩ := h
    have hr := culetref27_floor.run a0 a1
    rw [culetref27_floor.nat] at hr
    obtain ⟨r, h2⟩ := Option.isSome_iff_exists.1 (by (simp only [culetref27_floor.o, culetref27_floor.K, isSome_cond, Option.isSome_some, bool_cond_true]; revert hp; cases decide (a1 < 0) <;> simp) : (culetref27_floor.o a0 a1).isSome = true)
    have h3 : culetref27_floor a0 a1 = r := by unfold culetref27_floor; rw [h2]; rfl
    have h4 : culetref27_floor.K a0 a1 some = some r := h2
    rw [h4, Option.bind_some] at hr
    rw [h3]
    exact ⟨hr, by simp [okV, Nat.blt], clo_spec 8 _ (by kernel_rfl), told_blk (by kernel_rfl)⟩
  · cases h

/-! ### culet/culetref27.ceil (92) -/
def culetref27_ceil.K {R : Type} (f_culetref27_floor : Int → Int → (Int)) (a0 : Int) (a1 : Int) (k : (Int) → Option R) : Option R :=
  bif bif decide (a1 < 0) then IntKind.i64.wrap (-a1) != 0 else a1 != 0 then
    let t0 := f_culetref27_floor (IntKind.i64.wrap (0 - a0)) a1
    k (IntKind.i64.wrap (0 - t0))
  else
    none
set_option maxRecDepth 100000 in
theorem culetref27_ceil.run (f_culetref27_floor : Int → Int → (Int)) (a0 : Int) (a1 : Int) : xfn Try.prog ⟨[(91, culetref27_floor.sp f_culetref27_floor)], []⟩ [] 40 Try.f92 [.int .i64 a0, .int .i64 a1] [] = culetref27_ceil.K f_culetref27_floor a0 a1 (fun r => some (.int .i64 r, [])) := by kernel_rfl
def culetref27_ceil.o (a0 : Int) (a1 : Int) : Option (Int) := culetref27_ceil.K culetref27_floor a0 a1 some
def culetref27_ceil.pre (a0 : Int) (a1 : Int) : Bool := (culetref27_ceil.o a0 a1).isSome
def culetref27_ceil (a0 : Int) (a1 : Int) : Int := (culetref27_ceil.o a0 a1).getD default
theorem culetref27_ceil.nat {R : Type} (f_culetref27_floor : Int → Int → (Int)) (a0 : Int) (a1 : Int) (k : (Int) → Option R) : culetref27_ceil.K f_culetref27_floor a0 a1 k = (culetref27_ceil.K f_culetref27_floor a0 a1 some).bind k := by
  simp only [culetref27_ceil.K, bcond, Option.bind_some, Option.bind_none]
theorem culetref27_ceil.eq {a b : Int} (hb : 0 < b) (h1 : -4611686018427387904 ≤ a) (h2 : a ≤ 4611686018427387904) : culetref27_ceil a b = cl a b := by
  have hb0 : (b != 0) = true := by simp; omega
  have h3 : ¬ b < 0 := by omega
  have hq := tdiv_bnd (a := -a) hb (by omega) (by omega)
  simp only [culetref27_ceil, culetref27_ceil.o, culetref27_ceil.K, hb0, h3, decide_false, cond_true, cond_false, Option.getD_some, Int.zero_sub]
  rw [w64 (n := -a) (by omega) (by omega), culetref27_floor.eq hb (by omega) (by omega), w64 (by omega) (by omega)]
  rfl
theorem culetref27_ceil.eqn {a b : Int} (hb : b < 0) (hb' : -4611686018427387904 ≤ b) (h1 : -4611686018427387904 ≤ a) (h2 : a ≤ 4611686018427387904) : culetref27_ceil a b = cl (-a) (-b) := by
  have hw : IntKind.i64.wrap (-b) = -b := w64 (by omega) (by omega)
  have hb0 : (-b != 0) = true := by simp; omega
  have hq := tdiv_bnd (a := a) (b := -b) (by omega) (by omega) (by omega)
  simp only [culetref27_ceil, culetref27_ceil.o, culetref27_ceil.K, hb, decide_true, hw, hb0, cond_true, Option.getD_some, Int.zero_sub]
  rw [w64 (n := -a) (by omega) (by omega), culetref27_floor.eqn hb (by omega) (by omega) (by omega), Int.neg_neg, w64 (by omega) (by omega)]
  simp only [cl, Int.neg_neg]
theorem culetref27_ceil.ok : SOK Try.prog 92 (culetref27_ceil.sp culetref27_ceil) := by
  refine sok_of (E := ⟨[(91, culetref27_floor.sp culetref27_floor)], []⟩) ⟨(specs_cons culetref27_floor.ok specs_nil), inl_nil, mixed_ok⟩ 40 Try.func92 (by decide) rfl no_loops fun vs bl v bl' h => ?_
  unfold culetref27_ceil.sp at h
  split at h
  · rename_i a0 a1
    simp only [Option.some.injEq, Prod.mk.injEq] at h
    obtain ⟨hp, rfl, rfl⟩ := h
    have hr := culetref27_ceil.run culetref27_floor a0 a1
    rw [culetref27_ceil.nat] at hr
    obtain ⟨r, h2⟩ := Option.isSome_iff_exists.1 (by simp [culetref27_ceil.o, culetref27_ceil.K, isSome_cond, bool_cond_true, hp] : (culetref27_ceil.o a0 a1).isSome = true)
    have h3 : culetref27_ceil a0 a1 = r := by unfold culetref27_ceil; rw [h2]; rfl
    have h4 : culetref27_ceil.K culetref27_floor a0 a1 some = some r := h2
    rw [h4, Option.bind_some] at hr
    rw [h3]
    exact ⟨hr, by simp [okV, Nat.blt], clo_spec 8 _ (by kernel_rfl), told_blk (by kernel_rfl)⟩
  · cases h

/-! ### culet/culetref27.Mul (83) -/
def culetref27_Mul.K {R : Type} (f_culetref27_both : Int → Int → Int → Int → (Bool)) (f_culetref27_checked : Int → Int → (Int × Int × Int)) (f_culetref27_floor : Int → Int → (Int)) (f_culetref27_ceil : Int → Int → (Int)) (a0_0 : Int) (a0_1 : Int) (a1_0 : Int) (a1_1 : Int) (k : Int × Int × Int → R) : R :=
  let t0 := f_culetref27_both a0_0 a0_1 a1_0 a1_1
  bif !t0 then
    k (0, 0, 1)
  else
    let t1 := f_culetref27_floor (if IntKind.i64.wrap (a0_1 * a1_1) < if IntKind.i64.wrap (a0_1 * a1_0) < if IntKind.i64.wrap (a0_0 * a1_1) < IntKind.i64.wrap (a0_0 * a1_0) then IntKind.i64.wrap (a0_0 * a1_1) else IntKind.i64.wrap (a0_0 * a1_0) then IntKind.i64.wrap (a0_1 * a1_0) else if IntKind.i64.wrap (a0_0 * a1_1) < IntKind.i64.wrap (a0_0 * a1_0) then IntKind.i64.wrap (a0_0 * a1_1) else IntKind.i64.wrap (a0_0 * a1_0) then IntKind.i64.wrap (a0_1 * a1_1) else if IntKind.i64.wrap (a0_1 * a1_0) < if IntKind.i64.wrap (a0_0 * a1_1) < IntKind.i64.wrap (a0_0 * a1_0) then IntKind.i64.wrap (a0_0 * a1_1) else IntKind.i64.wrap (a0_0 * a1_0) then IntKind.i64.wrap (a0_1 * a1_0) else if IntKind.i64.wrap (a0_0 * a1_1) < IntKind.i64.wrap (a0_0 * a1_0) then IntKind.i64.wrap (a0_0 * a1_1) else IntKind.i64.wrap (a0_0 * a1_0)) 16777216
    let t2 := f_culetref27_ceil (if IntKind.i64.wrap (a0_1 * a1_1) > if IntKind.i64.wrap (a0_1 * a1_0) > if IntKind.i64.wrap (a0_0 * a1_1) > IntKind.i64.wrap (a0_0 * a1_0) then IntKind.i64.wrap (a0_0 * a1_1) else IntKind.i64.wrap (a0_0 * a1_0) then IntKind.i64.wrap (a0_1 * a1_0) else if IntKind.i64.wrap (a0_0 * a1_1) > IntKind.i64.wrap (a0_0 * a1_0) then IntKind.i64.wrap (a0_0 * a1_1) else IntKind.i64.wrap (a0_0 * a1_0) then IntKind.i64.wrap (a0_1 * a1_1) else if IntKind.i64.wrap (a0_1 * a1_0) > if IntKind.i64.wrap (a0_0 * a1_1) > IntKind.i64.wrap (a0_0 * a1_0) then IntKind.i64.wrap (a0_0 * a1_1) else IntKind.i64.wrap (a0_0 * a1_0) then IntKind.i64.wrap (a0_1 * a1_0) else if IntKind.i64.wrap (a0_0 * a1_1) > IntKind.i64.wrap (a0_0 * a1_0) then IntKind.i64.wrap (a0_0 * a1_1) else IntKind.i64.wrap (a0_0 * a1_0)) 16777216
    let t3 := f_culetref27_checked t1 t2
    k (t3.fst, t3.snd.fst, t3.snd.snd)
set_option maxRecDepth 100000 in
theorem culetref27_Mul.run (f_culetref27_both : Int → Int → Int → Int → (Bool)) (f_culetref27_checked : Int → Int → (Int × Int × Int)) (f_culetref27_floor : Int → Int → (Int)) (f_culetref27_ceil : Int → Int → (Int)) (a0_0 : Int) (a0_1 : Int) (a1_0 : Int) (a1_1 : Int) : xfn Try.prog ⟨[(64, culetref27_both.sp f_culetref27_both), (85, culetref27_checked.sp f_culetref27_checked), (91, culetref27_floor.sp f_culetref27_floor), (92, culetref27_ceil.sp f_culetref27_ceil)], []⟩ [] 40 Try.f83 [.agg ⟨[.int .i64 a0_0, .int .i64 a0_1]⟩, .agg ⟨[.int .i64 a1_0, .int .i64 a1_1]⟩] [] = culetref27_Mul.K f_culetref27_both f_culetref27_checked f_culetref27_floor f_culetref27_ceil a0_0 a0_1 a1_0 a1_1 (fun r => some (.tuple ⟨[.agg ⟨[.int .i64 r.1, .int .i64 r.2.1]⟩, .int .i64 r.2.2]⟩, [])) := by kernel_rfl
def culetref27_Mul (a0_0 : Int) (a0_1 : Int) (a1_0 : Int) (a1_1 : Int) : Int × Int × Int := culetref27_Mul.K culetref27_both culetref27_checked culetref27_floor culetref27_ceil a0_0 a0_1 a1_0 a1_1 id
theorem culetref27_Mul.nat {R : Type} (f_culetref27_both : Int → Int → Int → Int → (Bool)) (f_culetref27_checked : Int → Int → (Int × Int × Int)) (f_culetref27_floor : Int → Int → (Int)) (f_culetref27_ceil : Int → Int → (Int)) (a0_0 : Int) (a0_1 : Int) (a1_0 : Int) (a1_1 : Int) (k : Int × Int × Int → R) : culetref27_Mul.K f_culetref27_both f_culetref27_checked f_culetref27_floor f_culetref27_ceil a0_0 a0_1 a1_0 a1_1 k = k (culetref27_Mul.K f_culetref27_both f_culetref27_checked f_culetref27_floor f_culetref27_ceil a0_0 a0_1 a1_0 a1_1 id) := by
  simp only [culetref27_Mul.K, acond k, id_eq]
theorem culetref27_Mul.eq (a b c d : Int) : culetref27_Mul a b c d = imul a b c d := by
  simp only [culetref27_Mul, culetref27_Mul.K, id_eq, culetref27_both.eq, imul, mnE, mxE]
  cases h : V a b && V c d with
  | false => simp
  | true =>
    have h' := h
    rw [Bool.and_eq_true] at h'
    have := V_iff.1 h'.1
    have := V_iff.1 h'.2
    have e1 := mul_bnd30 (x := a) (y := c) (by omega) (by omega) (by omega) (by omega)
    have e2 := mul_bnd30 (x := a) (y := d) (by omega) (by omega) (by omega) (by omega)
    have e3 := mul_bnd30 (x := b) (y := c) (by omega) (by omega) (by omega) (by omega)
    have e4 := mul_bnd30 (x := b) (y := d) (by omega) (by omega) (by omega) (by omega)
    have w1 : IntKind.i64.wrap (a * c) = a * c := w64 (by omega) (by omega)
    have w2 : IntKind.i64.wrap (a * d) = a * d := w64 (by omega) (by omega)
    have w3 : IntKind.i64.wrap (b * c) = b * c := w64 (by omega) (by omega)
    have w4 : IntKind.i64.wrap (b * d) = b * d := w64 (by omega) (by omega)
    have m1 : min (min (min (a * c) (a * d)) (b * c)) (b * d) = mn4 (a * c) (a * d) (b * c) (b * d) := by simp only [mn4]; omega
    have m2 : max (max (max (a * c) (a * d)) (b * c)) (b * d) = mx4 (a * c) (a * d) (b * c) (b * d) := by simp only [mx4]; omega
    simp only [w1, w2, w3, w4, Bool.not_true, cond_false, cond_true, m1, m2]
    rw [culetref27_floor.eq (by omega) (by simp only [mn4]; omega) (by simp only [mn4]; omega), culetref27_ceil.eq (by omega) (by simp only [mx4]; omega) (by simp only [mx4]; omega), culetref27_checked.eq]
theorem culetref27_Mul.ok : SOK Try.prog 83 (culetref27_Mul.sp culetref27_Mul) := by
  refine sok_of (E := ⟨[(64, culetref27_both.sp culetref27_both), (85, culetref27_checked.sp culetref27_checked), (91, culetref27_floor.sp culetref27_floor), (92, culetref27_ceil.sp culetref27_ceil)], []⟩) ⟨(specs_cons culetref27_both.ok (specs_cons culetref27_checked.ok (specs_cons culetref27_floor.ok (specs_cons culetref27_ceil.ok specs_nil)))), inl_nil, mixed_ok⟩ 40 Try.func83 (by decide) rfl no_loops fun vs bl v bl' h => ?_
  unfold culetref27_Mul.sp at h
  split at h
  · rename_i a0_0 a0_1 a1_0 a1_1
    simp only [Option.some.injEq, Prod.mk.injEq, true_and] at h
    obtain ⟨rfl, rfl⟩ := h
    refine ⟨?_, by simp [okV, Nat.blt], clo_spec 8 _ (by kernel_rfl), told_blk (by kernel_rfl)⟩
    refine (culetref27_Mul.run culetref27_both culetref27_checked culetref27_floor culetref27_ceil a0_0 a0_1 a1_0 a1_1).trans ?_
    refine (culetref27_Mul.nat culetref27_both culetref27_checked culetref27_floor culetref27_ceil a0_0 a0_1 a1_0 a1_1 _).trans ?_
    kernel_rfl
  · cases h

/-! ### (*culet/culetref28.Calc).Mul (49) -/
def culetref28_Calc_Mul.K {R : Type} (f_culetref28_Calc_kept : Int → Int → Int → Int → (Int × Int × Int)) (f_culetref27_Mul : Int → Int → Int → Int → (Int × Int × Int)) (s0_0 : Int) (a1_0 : Int) (a1_1 : Int) (a2_0 : Int) (a2_1 : Int) (k : Int × Int × Int → R) : R :=
  let t0 := f_culetref27_Mul a1_0 a1_1 a2_0 a2_1
  let t1 := f_culetref28_Calc_kept s0_0 t0.fst t0.snd.fst t0.snd.snd
  k (t1.fst, t1.snd.fst, t1.snd.snd)
set_option maxRecDepth 100000 in
theorem culetref28_Calc_Mul.run (f_culetref28_Calc_kept : Int → Int → Int → Int → (Int × Int × Int)) (f_culetref27_Mul : Int → Int → Int → Int → (Int × Int × Int)) (s0_0 : Int) (a1_0 : Int) (a1_1 : Int) (a2_0 : Int) (a2_1 : Int) : xfn Try.prog ⟨[(79, culetref28_Calc_kept.sp f_culetref28_Calc_kept), (83, culetref27_Mul.sp f_culetref27_Mul)], []⟩ [] 40 Try.f49 [.pointer (some ⟨0, 0, none⟩), .agg ⟨[.int .i64 a1_0, .int .i64 a1_1]⟩, .agg ⟨[.int .i64 a2_0, .int .i64 a2_1]⟩] [.cs [.int .i64 s0_0] 71] = culetref28_Calc_Mul.K f_culetref28_Calc_kept f_culetref27_Mul s0_0 a1_0 a1_1 a2_0 a2_1 (fun r => some (.agg ⟨[.int .i64 r.1, .int .i64 r.2.1]⟩, [.cs [.int .i64 r.2.2] 71])) := by kernel_rfl
def culetref28_Calc_Mul (s0_0 : Int) (a1_0 : Int) (a1_1 : Int) (a2_0 : Int) (a2_1 : Int) : Int × Int × Int := culetref28_Calc_Mul.K culetref28_Calc_kept culetref27_Mul s0_0 a1_0 a1_1 a2_0 a2_1 id
theorem culetref28_Calc_Mul.nat {R : Type} (f_culetref28_Calc_kept : Int → Int → Int → Int → (Int × Int × Int)) (f_culetref27_Mul : Int → Int → Int → Int → (Int × Int × Int)) (s0_0 : Int) (a1_0 : Int) (a1_1 : Int) (a2_0 : Int) (a2_1 : Int) (k : Int × Int × Int → R) : culetref28_Calc_Mul.K f_culetref28_Calc_kept f_culetref27_Mul s0_0 a1_0 a1_1 a2_0 a2_1 k = k (culetref28_Calc_Mul.K f_culetref28_Calc_kept f_culetref27_Mul s0_0 a1_0 a1_1 a2_0 a2_1 id) := by
  simp only [culetref28_Calc_Mul.K, acond k, id_eq]
theorem culetref28_Calc_Mul.eq (s a b c d : Int) : culetref28_Calc_Mul s a b c d = kr s (imul a b c d) := by
  simp only [culetref28_Calc_Mul, culetref28_Calc_Mul.K, id_eq, culetref27_Mul.eq, kept_eq, kr]
theorem culetref28_Calc_Mul.ok : SOK Try.prog 49 (culetref28_Calc_Mul.sp culetref28_Calc_Mul) := by
  refine sok_of (E := ⟨[(79, culetref28_Calc_kept.sp culetref28_Calc_kept), (83, culetref27_Mul.sp culetref27_Mul)], []⟩) ⟨(specs_cons culetref28_Calc_kept.ok (specs_cons culetref27_Mul.ok specs_nil)), inl_nil, mixed_ok⟩ 40 Try.func49 (by decide) rfl no_loops fun vs bl v bl' h => ?_
  unfold culetref28_Calc_Mul.sp at h
  split at h
  · rename_i a1_0 a1_1 a2_0 a2_1 s0_0
    simp only [Option.some.injEq, Prod.mk.injEq, true_and] at h
    obtain ⟨rfl, rfl⟩ := h
    refine ⟨?_, by simp [okV, Nat.blt], clo_spec 8 _ (by kernel_rfl), told_blk (by kernel_rfl)⟩
    refine (culetref28_Calc_Mul.run culetref28_Calc_kept culetref27_Mul s0_0 a1_0 a1_1 a2_0 a2_1).trans ?_
    refine (culetref28_Calc_Mul.nat culetref28_Calc_kept culetref27_Mul s0_0 a1_0 a1_1 a2_0 a2_1 _).trans ?_
    kernel_rfl
  · cases h

/-! ### culet/culetref27.Square (86) -/
def culetref27_Square.K {R : Type} (f_culetref27_Valid : Int → Int → (Bool)) (f_culetref27_checked : Int → Int → (Int × Int × Int)) (f_culetref27_floor : Int → Int → (Int)) (f_culetref27_ceil : Int → Int → (Int)) (a0_0 : Int) (a0_1 : Int) (k : Int × Int × Int → R) : R :=
  let t0 := f_culetref27_Valid a0_0 a0_1
  bif !t0 then
    k (0, 0, 1)
  else
    bif decide (a0_0 ≤ 0) then
      bif decide (a0_1 ≥ 0) then
        let t1 := f_culetref27_floor 0 16777216
        let t2 := f_culetref27_ceil (if IntKind.i64.wrap (a0_1 * a0_1) > IntKind.i64.wrap (a0_0 * a0_0) then IntKind.i64.wrap (a0_1 * a0_1) else IntKind.i64.wrap (a0_0 * a0_0)) 16777216
        let t3 := f_culetref27_checked t1 t2
        k (t3.fst, t3.snd.fst, t3.snd.snd)
      else
        let t4 := f_culetref27_floor (if IntKind.i64.wrap (a0_1 * a0_1) < IntKind.i64.wrap (a0_0 * a0_0) then IntKind.i64.wrap (a0_1 * a0_1) else IntKind.i64.wrap (a0_0 * a0_0)) 16777216
        let t5 := f_culetref27_ceil (if IntKind.i64.wrap (a0_1 * a0_1) > IntKind.i64.wrap (a0_0 * a0_0) then IntKind.i64.wrap (a0_1 * a0_1) else IntKind.i64.wrap (a0_0 * a0_0)) 16777216
        let t6 := f_culetref27_checked t4 t5
        k (t6.fst, t6.snd.fst, t6.snd.snd)
    else
      let t7 := f_culetref27_floor (if IntKind.i64.wrap (a0_1 * a0_1) < IntKind.i64.wrap (a0_0 * a0_0) then IntKind.i64.wrap (a0_1 * a0_1) else IntKind.i64.wrap (a0_0 * a0_0)) 16777216
      let t8 := f_culetref27_ceil (if IntKind.i64.wrap (a0_1 * a0_1) > IntKind.i64.wrap (a0_0 * a0_0) then IntKind.i64.wrap (a0_1 * a0_1) else IntKind.i64.wrap (a0_0 * a0_0)) 16777216
      let t9 := f_culetref27_checked t7 t8
      k (t9.fst, t9.snd.fst, t9.snd.snd)
set_option maxRecDepth 100000 in
theorem culetref27_Square.run (f_culetref27_Valid : Int → Int → (Bool)) (f_culetref27_checked : Int → Int → (Int × Int × Int)) (f_culetref27_floor : Int → Int → (Int)) (f_culetref27_ceil : Int → Int → (Int)) (a0_0 : Int) (a0_1 : Int) : xfn Try.prog ⟨[(26, culetref27_Valid.sp f_culetref27_Valid), (85, culetref27_checked.sp f_culetref27_checked), (91, culetref27_floor.sp f_culetref27_floor), (92, culetref27_ceil.sp f_culetref27_ceil)], []⟩ [] 40 Try.f86 [.agg ⟨[.int .i64 a0_0, .int .i64 a0_1]⟩] [] = culetref27_Square.K f_culetref27_Valid f_culetref27_checked f_culetref27_floor f_culetref27_ceil a0_0 a0_1 (fun r => some (.tuple ⟨[.agg ⟨[.int .i64 r.1, .int .i64 r.2.1]⟩, .int .i64 r.2.2]⟩, [])) := by kernel_rfl
def culetref27_Square (a0_0 : Int) (a0_1 : Int) : Int × Int × Int := culetref27_Square.K culetref27_Valid culetref27_checked culetref27_floor culetref27_ceil a0_0 a0_1 id
theorem culetref27_Square.nat {R : Type} (f_culetref27_Valid : Int → Int → (Bool)) (f_culetref27_checked : Int → Int → (Int × Int × Int)) (f_culetref27_floor : Int → Int → (Int)) (f_culetref27_ceil : Int → Int → (Int)) (a0_0 : Int) (a0_1 : Int) (k : Int × Int × Int → R) : culetref27_Square.K f_culetref27_Valid f_culetref27_checked f_culetref27_floor f_culetref27_ceil a0_0 a0_1 k = k (culetref27_Square.K f_culetref27_Valid f_culetref27_checked f_culetref27_floor f_culetref27_ceil a0_0 a0_1 id) := by
  simp only [culetref27_Square.K, acond k, id_eq]
theorem culetref27_Square.eq (a b : Int) : culetref27_Square a b = isq a b := by
  simp only [culetref27_Square, culetref27_Square.K, id_eq, culetref27_Valid.eq, isq, mnE, mxE]
  cases h1 : V a b with
  | false => simp
  | true =>
    have := V_iff.1 h1
    have e1 := mul_bnd30 (x := a) (y := a) (by omega) (by omega) (by omega) (by omega)
    have e4 := mul_bnd30 (x := b) (y := b) (by omega) (by omega) (by omega) (by omega)
    have s1 := sq_nonneg a
    have s2 := sq_nonneg b
    have w1 : IntKind.i64.wrap (a * a) = a * a := w64 (by omega) (by omega)
    have w4 : IntKind.i64.wrap (b * b) = b * b := w64 (by omega) (by omega)
    have hk : (0 : Int) < 16777216 := by omega
    have r1 : culetref27_floor (min (a * a) (b * b)) 16777216 = min (a * a) (b * b) / 16777216 := culetref27_floor.eq hk (by omega) (by omega)
    have r2 : culetref27_ceil (max (a * a) (b * b)) 16777216 = cl (max (a * a) (b * b)) 16777216 := culetref27_ceil.eq hk (by omega) (by omega)
    have r3 : culetref27_floor 0 16777216 = 0 / 16777216 := culetref27_floor.eq hk (by omega) (by omega)
    simp only [w1, w4, Bool.not_true, cond_false, cond_true, r1, r2, r3, culetref27_checked.eq]
    by_cases h2 : a ≤ 0 <;> by_cases h3 : b ≥ 0 <;> simp [h2, h3]
theorem culetref27_Square.ok : SOK Try.prog 86 (culetref27_Square.sp culetref27_Square) := by
  refine sok_of (E := ⟨[(26, culetref27_Valid.sp culetref27_Valid), (85, culetref27_checked.sp culetref27_checked), (91, culetref27_floor.sp culetref27_floor), (92, culetref27_ceil.sp culetref27_ceil)], []⟩) ⟨(specs_cons culetref27_Valid.ok (specs_cons culetref27_checked.ok (specs_cons culetref27_floor.ok (specs_cons culetref27_ceil.ok specs_nil)))), inl_nil, mixed_ok⟩ 40 Try.func86 (by decide) rfl no_loops fun vs bl v bl' h => ?_
  unfold culetref27_Square.sp at h
  split at h
  · rename_i a0_0 a0_1
    simp only [Option.some.injEq, Prod.mk.injEq, true_and] at h
    obtain ⟨rfl, rfl⟩ := h
    refine ⟨?_, by simp [okV, Nat.blt], clo_spec 8 _ (by kernel_rfl), told_blk (by kernel_rfl)⟩
    refine (culetref27_Square.run culetref27_Valid culetref27_checked culetref27_floor culetref27_ceil a0_0 a0_1).trans ?_
    refine (culetref27_Square.nat culetref27_Valid culetref27_checked culetref27_floor culetref27_ceil a0_0 a0_1 _).trans ?_
    kernel_rfl
  · cases h

/-! ### (*culet/culetref28.Calc).Square (59) -/
def culetref28_Calc_Square.K {R : Type} (f_culetref28_Calc_kept : Int → Int → Int → Int → (Int × Int × Int)) (f_culetref27_Square : Int → Int → (Int × Int × Int)) (s0_0 : Int) (a1_0 : Int) (a1_1 : Int) (k : Int × Int × Int → R) : R :=
  let t0 := f_culetref27_Square a1_0 a1_1
  let t1 := f_culetref28_Calc_kept s0_0 t0.fst t0.snd.fst t0.snd.snd
  k (t1.fst, t1.snd.fst, t1.snd.snd)
set_option maxRecDepth 100000 in
theorem culetref28_Calc_Square.run (f_culetref28_Calc_kept : Int → Int → Int → Int → (Int × Int × Int)) (f_culetref27_Square : Int → Int → (Int × Int × Int)) (s0_0 : Int) (a1_0 : Int) (a1_1 : Int) : xfn Try.prog ⟨[(79, culetref28_Calc_kept.sp f_culetref28_Calc_kept), (86, culetref27_Square.sp f_culetref27_Square)], []⟩ [] 40 Try.f59 [.pointer (some ⟨0, 0, none⟩), .agg ⟨[.int .i64 a1_0, .int .i64 a1_1]⟩] [.cs [.int .i64 s0_0] 71] = culetref28_Calc_Square.K f_culetref28_Calc_kept f_culetref27_Square s0_0 a1_0 a1_1 (fun r => some (.agg ⟨[.int .i64 r.1, .int .i64 r.2.1]⟩, [.cs [.int .i64 r.2.2] 71])) := by kernel_rfl
def culetref28_Calc_Square (s0_0 : Int) (a1_0 : Int) (a1_1 : Int) : Int × Int × Int := culetref28_Calc_Square.K culetref28_Calc_kept culetref27_Square s0_0 a1_0 a1_1 id
theorem culetref28_Calc_Square.nat {R : Type} (f_culetref28_Calc_kept : Int → Int → Int → Int → (Int × Int × Int)) (f_culetref27_Square : Int → Int → (Int × Int × Int)) (s0_0 : Int) (a1_0 : Int) (a1_1 : Int) (k : Int × Int × Int → R) : culetref28_Calc_Square.K f_culetref28_Calc_kept f_culetref27_Square s0_0 a1_0 a1_1 k = k (culetref28_Calc_Square.K f_culetref28_Calc_kept f_culetref27_Square s0_0 a1_0 a1_1 id) := by
  simp only [culetref28_Calc_Square.K, acond k, id_eq]
theorem culetref28_Calc_Square.eq (s a b : Int) : culetref28_Calc_Square s a b = kr s (isq a b) := by
  simp only [culetref28_Calc_Square, culetref28_Calc_Square.K, id_eq, culetref27_Square.eq, kept_eq, kr]
theorem culetref28_Calc_Square.ok : SOK Try.prog 59 (culetref28_Calc_Square.sp culetref28_Calc_Square) := by
  refine sok_of (E := ⟨[(79, culetref28_Calc_kept.sp culetref28_Calc_kept), (86, culetref27_Square.sp culetref27_Square)], []⟩) ⟨(specs_cons culetref28_Calc_kept.ok (specs_cons culetref27_Square.ok specs_nil)), inl_nil, mixed_ok⟩ 40 Try.func59 (by decide) rfl no_loops fun vs bl v bl' h => ?_
  unfold culetref28_Calc_Square.sp at h
  split at h
  · rename_i a1_0 a1_1 s0_0
    simp only [Option.some.injEq, Prod.mk.injEq, true_and] at h
    obtain ⟨rfl, rfl⟩ := h
    refine ⟨?_, by simp [okV, Nat.blt], clo_spec 8 _ (by kernel_rfl), told_blk (by kernel_rfl)⟩
    refine (culetref28_Calc_Square.run culetref28_Calc_kept culetref27_Square s0_0 a1_0 a1_1).trans ?_
    refine (culetref28_Calc_Square.nat culetref28_Calc_kept culetref27_Square s0_0 a1_0 a1_1 _).trans ?_
    kernel_rfl
  · cases h

end Go.Proofs.Ytphlckkbihmlnaa.G
