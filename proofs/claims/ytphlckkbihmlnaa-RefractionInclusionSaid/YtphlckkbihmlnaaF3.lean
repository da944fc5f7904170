/- The functions, their runs and their contracts. WRITTEN BY gen.py of this repo. -/
import Derived.Test.YtphlckkbihmlnaaS
import Derived.Test.YtphlckkbihmlnaaM
import Derived.Test.YtphlckkbihmlnaaIv
import Derived.Test.YtphlckkbihmlnaaRf
import Derived.Test.YtphlckkbihmlnaaF2
import Derived.Test.YtphlckkbihmlnaaExt
import Derived.Test.YtphlckkbihmlnaaRoot
namespace Go.Proofs.Ytphlckkbihmlnaa.G
open Go Go.Proofs Go.RowKit RX
set_option linter.unusedVariables false
set_option linter.unusedSimpArgs false
/-! ### (*culet/direction.calc).sub (93) -/
def direction_calc_sub.K {R : Type} (f_interval_Sub : Int → Int → Int → Int → (Int × Int × Int)) (f_direction_calc_keep : Int → Int → Int → Int → (Int × Int × Int)) (s0_0 : Int) (a1_0 : Int) (a1_1 : Int) (a2_0 : Int) (a2_1 : Int) (k : Int × Int × Int → R) : R :=
  bif s0_0 != 0 then
    k (a1_0, a1_1, s0_0)
  else
    let t0 := f_interval_Sub a1_0 a1_1 a2_0 a2_1
    let t1 := f_direction_calc_keep s0_0 t0.fst t0.snd.fst t0.snd.snd
    k (t1.fst, t1.snd.fst, t1.snd.snd)
set_option maxRecDepth 100000 in
theorem direction_calc_sub.run (f_interval_Sub : Int → Int → Int → Int → (Int × Int × Int)) (f_direction_calc_keep : Int → Int → Int → Int → (Int × Int × Int)) (s0_0 : Int) (a1_0 : Int) (a1_1 : Int) (a2_0 : Int) (a2_1 : Int) : xfn Try.prog ⟨[(40, interval_Sub.sp f_interval_Sub), (94, direction_calc_keep.sp f_direction_calc_keep)], [(89, Try.f89)]⟩ [] 40 Try.f93 [.pointer (some ⟨0, 0, none⟩), .agg ⟨[.int .i64 a1_0, .int .i64 a1_1]⟩, .agg ⟨[.int .i64 a2_0, .int .i64 a2_1]⟩] [.cs [.int .i64 s0_0] 79] = direction_calc_sub.K f_interval_Sub f_direction_calc_keep s0_0 a1_0 a1_1 a2_0 a2_1 (fun r => some (.agg ⟨[.int .i64 r.1, .int .i64 r.2.1]⟩, [.cs [.int .i64 r.2.2] 79])) := by kernel_rfl
def direction_calc_sub (s0_0 : Int) (a1_0 : Int) (a1_1 : Int) (a2_0 : Int) (a2_1 : Int) : Int × Int × Int := direction_calc_sub.K interval_Sub direction_calc_keep s0_0 a1_0 a1_1 a2_0 a2_1 id
theorem direction_calc_sub.nat {R : Type} (f_interval_Sub : Int → Int → Int → Int → (Int × Int × Int)) (f_direction_calc_keep : Int → Int → Int → Int → (Int × Int × Int)) (s0_0 : Int) (a1_0 : Int) (a1_1 : Int) (a2_0 : Int) (a2_1 : Int) (k : Int × Int × Int → R) : direction_calc_sub.K f_interval_Sub f_direction_calc_keep s0_0 a1_0 a1_1 a2_0 a2_1 k = k (direction_calc_sub.K f_interval_Sub f_direction_calc_keep s0_0 a1_0 a1_1 a2_0 a2_1 id) := by
  simp only [direction_calc_sub.K, acond k, id_eq]
theorem direction_calc_sub.eq (s a b c d : Int) : direction_calc_sub s a b c d = st s a b (isub a b c d) := by
  simp only [direction_calc_sub, direction_calc_sub.K, id_eq, interval_Sub.eq, direction_calc_keep.eq, st]
  by_cases hs : s = 0
  · subst hs; rfl
  · simp only [bne_of hs, cond_true]
theorem direction_calc_sub.ok : SOK Try.prog 93 (direction_calc_sub.sp direction_calc_sub) := by
  refine sok_of (E := ⟨[(40, interval_Sub.sp interval_Sub), (94, direction_calc_keep.sp direction_calc_keep)], [(89, Try.f89)]⟩) ⟨(specs_cons interval_Sub.ok (specs_cons direction_calc_keep.ok specs_nil)), (inl_cons ⟨Try.func89, by decide, rfl⟩ inl_nil), mixed_ok⟩ 40 Try.func93 (by decide) rfl no_loops fun vs bl v bl' h => ?_
  unfold direction_calc_sub.sp at h
  split at h
  · rename_i a1_0 a1_1 a2_0 a2_1 s0_0
    simp only [Option.some.injEq, Prod.mk.injEq, true_and] at h
    obtain ⟨rfl, rfl⟩ := h
    refine ⟨?_, by simp [okV, Nat.blt], clo_spec 8 _ (by kernel_rfl), told_blk (by kernel_rfl)⟩
    refine (direction_calc_sub.run interval_Sub direction_calc_keep s0_0 a1_0 a1_1 a2_0 a2_1).trans ?_
    refine (direction_calc_sub.nat interval_Sub direction_calc_keep s0_0 a1_0 a1_1 a2_0 a2_1 _).trans ?_
    kernel_rfl
  · cases h

/-! ### culet/direction.Sub (84) -/
def direction_Sub.K {R : Type} (f_direction_Valid : Int → Int → Int → Int → Int → Int → (Bool)) (f_direction_calc_box : Int → Int → Int → Int → Int → Int → Int → (Int × Int × Int × Int × Int × Int × Int × Int)) (f_direction_calc_sub : Int → Int → Int → Int → Int → (Int × Int × Int)) (a0_0 : Int) (a0_1 : Int) (a0_2 : Int) (a0_3 : Int) (a0_4 : Int) (a0_5 : Int) (a1_0 : Int) (a1_1 : Int) (a1_2 : Int) (a1_3 : Int) (a1_4 : Int) (a1_5 : Int) (k : Int × Int × Int × Int × Int × Int × Int → R) : R :=
  let t0 := f_direction_Valid a0_0 a0_1 a0_2 a0_3 a0_4 a0_5
  bif !t0 then
    k (0, 0, 0, 0, 0, 0, 1)
  else
    let t1 := f_direction_Valid a1_0 a1_1 a1_2 a1_3 a1_4 a1_5
    bif !t1 then
      k (0, 0, 0, 0, 0, 0, 1)
    else
      let t2 := f_direction_calc_sub 0 a0_0 a0_1 a1_0 a1_1
      let t3 := f_direction_calc_sub t2.snd.snd a0_2 a0_3 a1_2 a1_3
      let t4 := f_direction_calc_sub t3.snd.snd a0_4 a0_5 a1_4 a1_5
      let t5 := f_direction_calc_box t4.snd.snd t2.fst t2.snd.fst t3.fst t3.snd.fst t4.fst t4.snd.fst
      k (t5.fst, t5.snd.fst, t5.snd.snd.fst, t5.snd.snd.snd.fst, t5.snd.snd.snd.snd.fst, t5.snd.snd.snd.snd.snd.fst, t5.snd.snd.snd.snd.snd.snd.fst)
set_option maxRecDepth 100000 in
theorem direction_Sub.run (f_direction_Valid : Int → Int → Int → Int → Int → Int → (Bool)) (f_direction_calc_box : Int → Int → Int → Int → Int → Int → Int → (Int × Int × Int × Int × Int × Int × Int × Int)) (f_direction_calc_sub : Int → Int → Int → Int → Int → (Int × Int × Int)) (a0_0 : Int) (a0_1 : Int) (a0_2 : Int) (a0_3 : Int) (a0_4 : Int) (a0_5 : Int) (a1_0 : Int) (a1_1 : Int) (a1_2 : Int) (a1_3 : Int) (a1_4 : Int) (a1_5 : Int) : xfn Try.prog ⟨[(65, direction_Valid.sp f_direction_Valid), (90, direction_calc_box.sp f_direction_calc_box), (93, direction_calc_sub.sp f_direction_calc_sub)], []⟩ [] 40 Try.f84 [.agg ⟨[.int .i64 a0_0, .int .i64 a0_1, .int .i64 a0_2, .int .i64 a0_3, .int .i64 a0_4, .int .i64 a0_5]⟩, .agg ⟨[.int .i64 a1_0, .int .i64 a1_1, .int .i64 a1_2, .int .i64 a1_3, .int .i64 a1_4, .int .i64 a1_5]⟩] [] = direction_Sub.K f_direction_Valid f_direction_calc_box f_direction_calc_sub a0_0 a0_1 a0_2 a0_3 a0_4 a0_5 a1_0 a1_1 a1_2 a1_3 a1_4 a1_5 (fun r => some (.tuple ⟨[.agg ⟨[.int .i64 r.1, .int .i64 r.2.1, .int .i64 r.2.2.1, .int .i64 r.2.2.2.1, .int .i64 r.2.2.2.2.1, .int .i64 r.2.2.2.2.2.1]⟩, .int .i64 r.2.2.2.2.2.2]⟩, [])) := by kernel_rfl
def direction_Sub (a0_0 : Int) (a0_1 : Int) (a0_2 : Int) (a0_3 : Int) (a0_4 : Int) (a0_5 : Int) (a1_0 : Int) (a1_1 : Int) (a1_2 : Int) (a1_3 : Int) (a1_4 : Int) (a1_5 : Int) : Int × Int × Int × Int × Int × Int × Int := direction_Sub.K direction_Valid direction_calc_box direction_calc_sub a0_0 a0_1 a0_2 a0_3 a0_4 a0_5 a1_0 a1_1 a1_2 a1_3 a1_4 a1_5 id
theorem direction_Sub.nat {R : Type} (f_direction_Valid : Int → Int → Int → Int → Int → Int → (Bool)) (f_direction_calc_box : Int → Int → Int → Int → Int → Int → Int → (Int × Int × Int × Int × Int × Int × Int × Int)) (f_direction_calc_sub : Int → Int → Int → Int → Int → (Int × Int × Int)) (a0_0 : Int) (a0_1 : Int) (a0_2 : Int) (a0_3 : Int) (a0_4 : Int) (a0_5 : Int) (a1_0 : Int) (a1_1 : Int) (a1_2 : Int) (a1_3 : Int) (a1_4 : Int) (a1_5 : Int) (k : Int × Int × Int × Int × Int × Int × Int → R) : direction_Sub.K f_direction_Valid f_direction_calc_box f_direction_calc_sub a0_0 a0_1 a0_2 a0_3 a0_4 a0_5 a1_0 a1_1 a1_2 a1_3 a1_4 a1_5 k = k (direction_Sub.K f_direction_Valid f_direction_calc_box f_direction_calc_sub a0_0 a0_1 a0_2 a0_3 a0_4 a0_5 a1_0 a1_1 a1_2 a1_3 a1_4 a1_5 id) := by
  simp only [direction_Sub.K, acond k, id_eq]
theorem direction_Sub.eq (a0 a1 a2 a3 a4 a5 b0 b1 b2 b3 b4 b5 : Int) : direction_Sub a0 a1 a2 a3 a4 a5 b0 b1 b2 b3 b4 b5 = o7 (dsub ((a0, a1), (a2, a3), (a4, a5)) ((b0, b1), (b2, b3), (b4, b5))) := by
  simp only [direction_Sub, direction_Sub.K, id_eq, direction_Valid.eq, direction_calc_sub.eq, direction_calc_box, direction_calc_box.K, id_eq, dsub, dzip, subR]
  cases hV0 : VB ((a0, a1), (a2, a3), (a4, a5)) with
  | false =>
    simp only [hV0, st0, kr0, st70, t3_ok, bind_ok, bind_er, o7, o3, o2, o11, V2_mk, kp0, cond_true, cond_false, Bool.not_true, Bool.not_false, Bool.false_and, Bool.and_false, Bool.true_and, Bool.and_true, bne_self_eq_false, beq_self_eq_true, if_true, if_false]
  | true =>
    cases hV1 : VB ((b0, b1), (b2, b3), (b4, b5)) with
    | false =>
      simp only [hV0, hV1, st0, kr0, st70, t3_ok, bind_ok, bind_er, o7, o3, o2, o11, V2_mk, kp0, cond_true, cond_false, Bool.not_true, Bool.not_false, Bool.false_and, Bool.and_false, Bool.true_and, Bool.and_true, bne_self_eq_false, beq_self_eq_true, if_true, if_false]
    | true =>
      rcases t3c (isub a0 a1 b0 b1) with ⟨x0, x1, h0⟩ | ⟨x0, x1, e0, n0, h0⟩
      · simp only [hV0, hV1, h0, st0, kr0, st70, t3_ok, bind_ok, bind_er, o7, o3, o2, o11, V2_mk, kp0, cond_true, cond_false, Bool.not_true, Bool.not_false, Bool.false_and, Bool.and_false, Bool.true_and, Bool.and_true, bne_self_eq_false, beq_self_eq_true, if_true, if_false]
        rcases t3c (isub a2 a3 b2 b3) with ⟨y0, y1, h1⟩ | ⟨y0, y1, e1, n1, h1⟩
        · simp only [h1, st0, kr0, st70, t3_ok, bind_ok, bind_er, o7, o3, o2, o11, V2_mk, kp0, cond_true, cond_false, Bool.not_true, Bool.not_false, Bool.false_and, Bool.and_false, Bool.true_and, Bool.and_true, bne_self_eq_false, beq_self_eq_true, if_true, if_false]
          rcases t3c (isub a4 a5 b4 b5) with ⟨z0, z1, h2⟩ | ⟨z0, z1, e2, n2, h2⟩
          · simp only [h2, st0, kr0, st70, t3_ok, bind_ok, bind_er, o7, o3, o2, o11, V2_mk, kp0, cond_true, cond_false, Bool.not_true, Bool.not_false, Bool.false_and, Bool.and_false, Bool.true_and, Bool.and_true, bne_self_eq_false, beq_self_eq_true, if_true, if_false]
          · simp only [h2, stE n2, krE n2, st7E n2, t3_er n2, bne_of n2, beq_of n2, kpn _ n2, st0, kr0, st70, t3_ok, bind_ok, bind_er, o7, o3, o2, o11, V2_mk, kp0, cond_true, cond_false, Bool.not_true, Bool.not_false, Bool.false_and, Bool.and_false, Bool.true_and, Bool.and_true, bne_self_eq_false, beq_self_eq_true, if_true, if_false]
        · simp only [h1, stE n1, krE n1, st7E n1, t3_er n1, bne_of n1, beq_of n1, kpn _ n1, st0, kr0, st70, t3_ok, bind_ok, bind_er, o7, o3, o2, o11, V2_mk, kp0, cond_true, cond_false, Bool.not_true, Bool.not_false, Bool.false_and, Bool.and_false, Bool.true_and, Bool.and_true, bne_self_eq_false, beq_self_eq_true, if_true, if_false]
      · simp only [hV0, hV1, h0, stE n0, krE n0, st7E n0, t3_er n0, bne_of n0, beq_of n0, kpn _ n0, st0, kr0, st70, t3_ok, bind_ok, bind_er, o7, o3, o2, o11, V2_mk, kp0, cond_true, cond_false, Bool.not_true, Bool.not_false, Bool.false_and, Bool.and_false, Bool.true_and, Bool.and_true, bne_self_eq_false, beq_self_eq_true, if_true, if_false]
theorem direction_Sub.ok : SOK Try.prog 84 (direction_Sub.sp direction_Sub) := by
  refine sok_of (E := ⟨[(65, direction_Valid.sp direction_Valid), (90, direction_calc_box.sp direction_calc_box), (93, direction_calc_sub.sp direction_calc_sub)], []⟩) ⟨(specs_cons direction_Valid.ok (specs_cons direction_calc_box.ok (specs_cons direction_calc_sub.ok specs_nil))), inl_nil, mixed_ok⟩ 40 Try.func84 (by decide) rfl no_loops fun vs bl v bl' h => ?_
  unfold direction_Sub.sp at h
  split at h
  · rename_i a0_0 a0_1 a0_2 a0_3 a0_4 a0_5 a1_0 a1_1 a1_2 a1_3 a1_4 a1_5
    simp only [Option.some.injEq, Prod.mk.injEq, true_and] at h
    obtain ⟨rfl, rfl⟩ := h
    refine ⟨?_, by simp [okV, Nat.blt], clo_spec 8 _ (by kernel_rfl), told_blk (by kernel_rfl)⟩
    refine (direction_Sub.run direction_Valid direction_calc_box direction_calc_sub a0_0 a0_1 a0_2 a0_3 a0_4 a0_5 a1_0 a1_1 a1_2 a1_3 a1_4 a1_5).trans ?_
    refine (direction_Sub.nat direction_Valid direction_calc_box direction_calc_sub a0_0 a0_1 a0_2 a0_3 a0_4 a0_5 a1_0 a1_1 a1_2 a1_3 a1_4 a1_5 _).trans ?_
    kernel_rfl
  · cases h

/-! ### (*culet/refraction.calc).less (52) -/
def refraction_calc_less.K {R : Type} (f_direction_Sub : Int → Int → Int → Int → Int → Int → Int → Int → Int → Int → Int → Int → (Int × Int × Int × Int × Int × Int × Int)) (s0_0 : Int) (a1_0 : Int) (a1_1 : Int) (a1_2 : Int) (a1_3 : Int) (a1_4 : Int) (a1_5 : Int) (a2_0 : Int) (a2_1 : Int) (a2_2 : Int) (a2_3 : Int) (a2_4 : Int) (a2_5 : Int) (k : Int × Int × Int × Int × Int × Int × Int → R) : R :=
  bif s0_0 != 0 then
    k (a1_0, a1_1, a1_2, a1_3, a1_4, a1_5, s0_0)
  else
    let t0 := f_direction_Sub a1_0 a1_1 a1_2 a1_3 a1_4 a1_5 a2_0 a2_1 a2_2 a2_3 a2_4 a2_5
    k (t0.fst, t0.snd.fst, t0.snd.snd.fst, t0.snd.snd.snd.fst, t0.snd.snd.snd.snd.fst, t0.snd.snd.snd.snd.snd.fst, t0.snd.snd.snd.snd.snd.snd)
set_option maxRecDepth 100000 in
theorem refraction_calc_less.run (f_direction_Sub : Int → Int → Int → Int → Int → Int → Int → Int → Int → Int → Int → Int → (Int × Int × Int × Int × Int × Int × Int)) (s0_0 : Int) (a1_0 : Int) (a1_1 : Int) (a1_2 : Int) (a1_3 : Int) (a1_4 : Int) (a1_5 : Int) (a2_0 : Int) (a2_1 : Int) (a2_2 : Int) (a2_3 : Int) (a2_4 : Int) (a2_5 : Int) : xfn Try.prog ⟨[(84, direction_Sub.sp f_direction_Sub)], []⟩ [] 40 Try.f52 [.pointer (some ⟨0, 0, none⟩), .agg ⟨[.int .i64 a1_0, .int .i64 a1_1, .int .i64 a1_2, .int .i64 a1_3, .int .i64 a1_4, .int .i64 a1_5]⟩, .agg ⟨[.int .i64 a2_0, .int .i64 a2_1, .int .i64 a2_2, .int .i64 a2_3, .int .i64 a2_4, .int .i64 a2_5]⟩] [.cs [.int .i64 s0_0] 63] = refraction_calc_less.K f_direction_Sub s0_0 a1_0 a1_1 a1_2 a1_3 a1_4 a1_5 a2_0 a2_1 a2_2 a2_3 a2_4 a2_5 (fun r => some (.agg ⟨[.int .i64 r.1, .int .i64 r.2.1, .int .i64 r.2.2.1, .int .i64 r.2.2.2.1, .int .i64 r.2.2.2.2.1, .int .i64 r.2.2.2.2.2.1]⟩, [.cs [.int .i64 r.2.2.2.2.2.2] 63])) := by kernel_rfl
def refraction_calc_less (s0_0 : Int) (a1_0 : Int) (a1_1 : Int) (a1_2 : Int) (a1_3 : Int) (a1_4 : Int) (a1_5 : Int) (a2_0 : Int) (a2_1 : Int) (a2_2 : Int) (a2_3 : Int) (a2_4 : Int) (a2_5 : Int) : Int × Int × Int × Int × Int × Int × Int := refraction_calc_less.K direction_Sub s0_0 a1_0 a1_1 a1_2 a1_3 a1_4 a1_5 a2_0 a2_1 a2_2 a2_3 a2_4 a2_5 id
theorem refraction_calc_less.nat {R : Type} (f_direction_Sub : Int → Int → Int → Int → Int → Int → Int → Int → Int → Int → Int → Int → (Int × Int × Int × Int × Int × Int × Int)) (s0_0 : Int) (a1_0 : Int) (a1_1 : Int) (a1_2 : Int) (a1_3 : Int) (a1_4 : Int) (a1_5 : Int) (a2_0 : Int) (a2_1 : Int) (a2_2 : Int) (a2_3 : Int) (a2_4 : Int) (a2_5 : Int) (k : Int × Int × Int × Int × Int × Int × Int → R) : refraction_calc_less.K f_direction_Sub s0_0 a1_0 a1_1 a1_2 a1_3 a1_4 a1_5 a2_0 a2_1 a2_2 a2_3 a2_4 a2_5 k = k (refraction_calc_less.K f_direction_Sub s0_0 a1_0 a1_1 a1_2 a1_3 a1_4 a1_5 a2_0 a2_1 a2_2 a2_3 a2_4 a2_5 id) := by
  simp only [refraction_calc_less.K, acond k, id_eq]
theorem refraction_calc_less.eq (s a0 a1 a2 a3 a4 a5 b0 b1 b2 b3 b4 b5 : Int) : refraction_calc_less s a0 a1 a2 a3 a4 a5 b0 b1 b2 b3 b4 b5 = st7 s ((a0, a1), (a2, a3), (a4, a5)) (dsub ((a0, a1), (a2, a3), (a4, a5)) ((b0, b1), (b2, b3), (b4, b5))) := by
  simp only [refraction_calc_less, refraction_calc_less.K, id_eq, direction_Sub.eq, st7]
theorem refraction_calc_less.ok : SOK Try.prog 52 (refraction_calc_less.sp refraction_calc_less) := by
  refine sok_of (E := ⟨[(84, direction_Sub.sp direction_Sub)], []⟩) ⟨(specs_cons direction_Sub.ok specs_nil), inl_nil, mixed_ok⟩ 40 Try.func52 (by decide) rfl no_loops fun vs bl v bl' h => ?_
  unfold refraction_calc_less.sp at h
  split at h
  · rename_i a1_0 a1_1 a1_2 a1_3 a1_4 a1_5 a2_0 a2_1 a2_2 a2_3 a2_4 a2_5 s0_0
    simp only [Option.some.injEq, Prod.mk.injEq, true_and] at h
    obtain ⟨rfl, rfl⟩ := h
    refine ⟨?_, by simp [okV, Nat.blt], clo_spec 8 _ (by kernel_rfl), told_blk (by kernel_rfl)⟩
    refine (refraction_calc_less.run direction_Sub s0_0 a1_0 a1_1 a1_2 a1_3 a1_4 a1_5 a2_0 a2_1 a2_2 a2_3 a2_4 a2_5).trans ?_
    refine (refraction_calc_less.nat direction_Sub s0_0 a1_0 a1_1 a1_2 a1_3 a1_4 a1_5 a2_0 a2_1 a2_2 a2_3 a2_4 a2_5 _).trans ?_
    kernel_rfl
  · cases h

/-! ### culet/refraction.Reflect (16) -/
def refraction_Reflect.K {R : Type} (f_direction_Dot : Int → Int → Int → Int → Int → Int → Int → Int → Int → Int → Int → Int → (Int × Int × Int)) (f_refraction_calc_scale : Int → Int → Int → Int → Int → Int → Int → Int → Int → (Int × Int × Int × Int × Int × Int × Int)) (f_refraction_calc_two_interval_Add : Int → Int → Int → Int → Int → (Int × Int × Int)) (f_refraction_calc_two_interval_Sub : Int → Int → Int → Int → Int → (Int × Int × Int)) (f_refraction_calc_two_interval_Mul : Int → Int → Int → Int → Int → (Int × Int × Int)) (f_refraction_calc_two_interval_Div : Int → Int → Int → Int → Int → (Int × Int × Int)) (f_refraction_calc_less : Int → Int → Int → Int → Int → Int → Int → Int → Int → Int → Int → Int → Int → (Int × Int × Int × Int × Int × Int × Int)) (f_interval_Add : Int → Int → Int → Int → (Int × Int × Int)) (a0_0 : Int) (a0_1 : Int) (a0_2 : Int) (a0_3 : Int) (a0_4 : Int) (a0_5 : Int) (a1_0 : Int) (a1_1 : Int) (a1_2 : Int) (a1_3 : Int) (a1_4 : Int) (a1_5 : Int) (k : Int × Int × Int × Int × Int × Int × Int → R) : R :=
  let t0 := f_direction_Dot a0_0 a0_1 a0_2 a0_3 a0_4 a0_5 a1_0 a1_1 a1_2 a1_3 a1_4 a1_5
  bif t0.snd.snd != 0 then
    k (0, 0, 0, 0, 0, 0, t0.snd.snd)
  else
    let t1 := f_refraction_calc_two_interval_Add 0 t0.fst t0.snd.fst t0.fst t0.snd.fst
    let t2 := f_refraction_calc_scale t1.snd.snd a1_0 a1_1 a1_2 a1_3 a1_4 a1_5 t1.fst t1.snd.fst
    let t3 := f_refraction_calc_less t2.snd.snd.snd.snd.snd.snd a0_0 a0_1 a0_2 a0_3 a0_4 a0_5 t2.fst t2.snd.fst t2.snd.snd.fst t2.snd.snd.snd.fst t2.snd.snd.snd.snd.fst t2.snd.snd.snd.snd.snd.fst
    bif t3.snd.snd.snd.snd.snd.snd != 0 then
      k (0, 0, 0, 0, 0, 0, t3.snd.snd.snd.snd.snd.snd)
    else
      k (t3.fst, t3.snd.fst, t3.snd.snd.fst, t3.snd.snd.snd.fst, t3.snd.snd.snd.snd.fst, t3.snd.snd.snd.snd.snd.fst, 0)
set_option maxRecDepth 100000 in
theorem refraction_Reflect.run (f_direction_Dot : Int → Int → Int → Int → Int → Int → Int → Int → Int → Int → Int → Int → (Int × Int × Int)) (f_refraction_calc_scale : Int → Int → Int → Int → Int → Int → Int → Int → Int → (Int × Int × Int × Int × Int × Int × Int)) (f_refraction_calc_two_interval_Add : Int → Int → Int → Int → Int → (Int × Int × Int)) (f_refraction_calc_two_interval_Sub : Int → Int → Int → Int → Int → (Int × Int × Int)) (f_refraction_calc_two_interval_Mul : Int → Int → Int → Int → Int → (Int × Int × Int)) (f_refraction_calc_two_interval_Div : Int → Int → Int → Int → Int → (Int × Int × Int)) (f_refraction_calc_less : Int → Int → Int → Int → Int → Int → Int → Int → Int → Int → Int → Int → Int → (Int × Int × Int × Int × Int × Int × Int)) (f_interval_Add : Int → Int → Int → Int → (Int × Int × Int)) (a0_0 : Int) (a0_1 : Int) (a0_2 : Int) (a0_3 : Int) (a0_4 : Int) (a0_5 : Int) (a1_0 : Int) (a1_1 : Int) (a1_2 : Int) (a1_3 : Int) (a1_4 : Int) (a1_5 : Int) : xfn Try.prog ⟨[(33, direction_Dot.sp f_direction_Dot), (38, refraction_calc_scale.sp f_refraction_calc_scale), (39, refraction_calc_two.sp f_refraction_calc_two_interval_Add f_refraction_calc_two_interval_Sub f_refraction_calc_two_interval_Mul f_refraction_calc_two_interval_Div), (52, refraction_calc_less.sp f_refraction_calc_less), (53, interval_Add.sp f_interval_Add)], []⟩ [] 40 Try.f16 [.agg ⟨[.int .i64 a0_0, .int .i64 a0_1, .int .i64 a0_2, .int .i64 a0_3, .int .i64 a0_4, .int .i64 a0_5]⟩, .agg ⟨[.int .i64 a1_0, .int .i64 a1_1, .int .i64 a1_2, .int .i64 a1_3, .int .i64 a1_4, .int .i64 a1_5]⟩] [] = refraction_Reflect.K f_direction_Dot f_refraction_calc_scale f_refraction_calc_two_interval_Add f_refraction_calc_two_interval_Sub f_refraction_calc_two_interval_Mul f_refraction_calc_two_interval_Div f_refraction_calc_less f_interval_Add a0_0 a0_1 a0_2 a0_3 a0_4 a0_5 a1_0 a1_1 a1_2 a1_3 a1_4 a1_5 (fun r => some (.tuple ⟨[.agg ⟨[.int .i64 r.1, .int .i64 r.2.1, .int .i64 r.2.2.1, .int .i64 r.2.2.2.1, .int .i64 r.2.2.2.2.1, .int .i64 r.2.2.2.2.2.1]⟩, .int .i64 r.2.2.2.2.2.2]⟩, [])) := by kernel_rfl
def refraction_Reflect (a0_0 : Int) (a0_1 : Int) (a0_2 : Int) (a0_3 : Int) (a0_4 : Int) (a0_5 : Int) (a1_0 : Int) (a1_1 : Int) (a1_2 : Int) (a1_3 : Int) (a1_4 : Int) (a1_5 : Int) : Int × Int × Int × Int × Int × Int × Int := refraction_Reflect.K direction_Dot refraction_calc_scale refraction_calc_two_interval_Add refraction_calc_two_interval_Sub refraction_calc_two_interval_Mul refraction_calc_two_interval_Div refraction_calc_less interval_Add a0_0 a0_1 a0_2 a0_3 a0_4 a0_5 a1_0 a1_1 a1_2 a1_3 a1_4 a1_5 id
theorem refraction_Reflect.nat {R : Type} (f_direction_Dot : Int → Int → Int → Int → Int → Int → Int → Int → Int → Int → Int → Int → (Int × Int × Int)) (f_refraction_calc_scale : Int → Int → Int → Int → Int → Int → Int → Int → Int → (Int × Int × Int × Int × Int × Int × Int)) (f_refraction_calc_two_interval_Add : Int → Int → Int → Int → Int → (Int × Int × Int)) (f_refraction_calc_two_interval_Sub : Int → Int → Int → Int → Int → (Int × Int × Int)) (f_refraction_calc_two_interval_Mul : Int → Int → Int → Int → Int → (Int × Int × Int)) (f_refraction_calc_two_interval_Div : Int → Int → Int → Int → Int → (Int × Int × Int)) (f_refraction_calc_less : Int → Int → Int → Int → Int → Int → Int → Int → Int → Int → Int → Int → Int → (Int × Int × Int × Int × Int × Int × Int)) (f_interval_Add : Int → Int → Int → Int → (Int × Int × Int)) (a0_0 : Int) (a0_1 : Int) (a0_2 : Int) (a0_3 : Int) (a0_4 : Int) (a0_5 : Int) (a1_0 : Int) (a1_1 : Int) (a1_2 : Int) (a1_3 : Int) (a1_4 : Int) (a1_5 : Int) (k : Int × Int × Int × Int × Int × Int × Int → R) : refraction_Reflect.K f_direction_Dot f_refraction_calc_scale f_refraction_calc_two_interval_Add f_refraction_calc_two_interval_Sub f_refraction_calc_two_interval_Mul f_refraction_calc_two_interval_Div f_refraction_calc_less f_interval_Add a0_0 a0_1 a0_2 a0_3 a0_4 a0_5 a1_0 a1_1 a1_2 a1_3 a1_4 a1_5 k = k (refraction_Reflect.K f_direction_Dot f_refraction_calc_scale f_refraction_calc_two_interval_Add f_refraction_calc_two_interval_Sub f_refraction_calc_two_interval_Mul f_refraction_calc_two_interval_Div f_refraction_calc_less f_interval_Add a0_0 a0_1 a0_2 a0_3 a0_4 a0_5 a1_0 a1_1 a1_2 a1_3 a1_4 a1_5 id) := by
  simp only [refraction_Reflect.K, acond k, id_eq]
theorem refraction_Reflect.eq (a0 a1 a2 a3 a4 a5 b0 b1 b2 b3 b4 b5 : Int) : refraction_Reflect a0 a1 a2 a3 a4 a5 b0 b1 b2 b3 b4 b5 = o7 (rflx ((a0, a1), (a2, a3), (a4, a5)) ((b0, b1), (b2, b3), (b4, b5))) := by
  simp only [refraction_Reflect, refraction_Reflect.K, id_eq, direction_Dot.eq, refraction_calc_two_interval_Add.eq, refraction_calc_scale.eq, refraction_calc_less.eq, rflx, addR]
  rcases (ddot_nz ((a0, a1), (a2, a3), (a4, a5)) ((b0, b1), (b2, b3), (b4, b5))).cases with ⟨⟨x0, x1⟩, h0⟩ | ⟨e0, n0, h0⟩
  · simp only [h0, st0, kr0, st70, t3_ok, bind_ok, bind_er, o7, o3, o2, o11, V2_mk, kp0, cond_true, cond_false, Bool.not_true, Bool.not_false, Bool.false_and, Bool.and_false, Bool.true_and, Bool.and_true, bne_self_eq_false, beq_self_eq_true, if_true, if_false, one_bne]
    rcases t3c (iadd x0 x1 x0 x1) with ⟨m0, m1, h1⟩ | ⟨m0, m1, e1, n1, h1⟩
    · simp only [h1, st0, kr0, st70, t3_ok, bind_ok, bind_er, o7, o3, o2, o11, V2_mk, kp0, cond_true, cond_false, Bool.not_true, Bool.not_false, Bool.false_and, Bool.and_false, Bool.true_and, Bool.and_true, bne_self_eq_false, beq_self_eq_true, if_true, if_false, one_bne]
      rcases (dscale_nz ((b0, b1), (b2, b3), (b4, b5)) (m0, m1)).cases with ⟨⟨⟨s0, s1⟩, ⟨s2, s3⟩, ⟨s4, s5⟩⟩, h2⟩ | ⟨e2, n2, h2⟩
      · simp only [h2, st0, kr0, st70, t3_ok, bind_ok, bind_er, o7, o3, o2, o11, V2_mk, kp0, cond_true, cond_false, Bool.not_true, Bool.not_false, Bool.false_and, Bool.and_false, Bool.true_and, Bool.and_true, bne_self_eq_false, beq_self_eq_true, if_true, if_false, one_bne]
        rcases (dsub_nz ((a0, a1), (a2, a3), (a4, a5)) ((s0, s1), (s2, s3), (s4, s5))).cases with ⟨⟨⟨w0, w1⟩, ⟨w2, w3⟩, ⟨w4, w5⟩⟩, h3⟩ | ⟨e3, n3, h3⟩
        · simp only [h3, st0, kr0, st70, t3_ok, bind_ok, bind_er, o7, o3, o2, o11, V2_mk, kp0, cond_true, cond_false, Bool.not_true, Bool.not_false, Bool.false_and, Bool.and_false, Bool.true_and, Bool.and_true, bne_self_eq_false, beq_self_eq_true, if_true, if_false, one_bne]
        · simp only [h3, stE n3, krE n3, st7E n3, t3_er n3, bne_of n3, beq_of n3, kpn _ n3, st0, kr0, st70, t3_ok, bind_ok, bind_er, o7, o3, o2, o11, V2_mk, kp0, cond_true, cond_false, Bool.not_true, Bool.not_false, Bool.false_and, Bool.and_false, Bool.true_and, Bool.and_true, bne_self_eq_false, beq_self_eq_true, if_true, if_false, one_bne]
      · simp only [h2, stE n2, krE n2, st7E n2, t3_er n2, bne_of n2, beq_of n2, kpn _ n2, st0, kr0, st70, t3_ok, bind_ok, bind_er, o7, o3, o2, o11, V2_mk, kp0, cond_true, cond_false, Bool.not_true, Bool.not_false, Bool.false_and, Bool.and_false, Bool.true_and, Bool.and_true, bne_self_eq_false, beq_self_eq_true, if_true, if_false, one_bne]
    · simp only [h1, stE n1, krE n1, st7E n1, t3_er n1, bne_of n1, beq_of n1, kpn _ n1, st0, kr0, st70, t3_ok, bind_ok, bind_er, o7, o3, o2, o11, V2_mk, kp0, cond_true, cond_false, Bool.not_true, Bool.not_false, Bool.false_and, Bool.and_false, Bool.true_and, Bool.and_true, bne_self_eq_false, beq_self_eq_true, if_true, if_false, one_bne]
  · simp only [h0, stE n0, krE n0, st7E n0, t3_er n0, bne_of n0, beq_of n0, kpn _ n0, st0, kr0, st70, t3_ok, bind_ok, bind_er, o7, o3, o2, o11, V2_mk, kp0, cond_true, cond_false, Bool.not_true, Bool.not_false, Bool.false_and, Bool.and_false, Bool.true_and, Bool.and_true, bne_self_eq_false, beq_self_eq_true, if_true, if_false, one_bne]
theorem refraction_Reflect.ok : SOK Try.prog 16 (refraction_Reflect.sp refraction_Reflect) := by
  refine sok_of (E := ⟨[(33, direction_Dot.sp direction_Dot), (38, refraction_calc_scale.sp refraction_calc_scale), (39, refraction_calc_two.sp refraction_calc_two_interval_Add refraction_calc_two_interval_Sub refraction_calc_two_interval_Mul refraction_calc_two_interval_Div), (52, refraction_calc_less.sp refraction_calc_less), (53, interval_Add.sp interval_Add)], []⟩) ⟨(specs_cons direction_Dot.ok (specs_cons refraction_calc_scale.ok (specs_cons refraction_calc_two.ok (specs_cons refraction_calc_less.ok (specs_cons interval_Add.ok specs_nil))))), inl_nil, mixed_ok⟩ 40 Try.func16 (by decide) rfl no_loops fun vs bl v bl' h => ?_
  unfold refraction_Reflect.sp at h
  split at h
  · rename_i a0_0 a0_1 a0_2 a0_3 a0_4 a0_5 a1_0 a1_1 a1_2 a1_3 a1_4 a1_5
    simp only [Option.some.injEq, Prod.mk.injEq, true_and] at h
    obtain ⟨rfl, rfl⟩ := h
    refine ⟨?_, by simp [okV, Nat.blt], clo_spec 8 _ (by kernel_rfl), told_blk (by kernel_rfl)⟩
    refine (refraction_Reflect.run direction_Dot refraction_calc_scale refraction_calc_two_interval_Add refraction_calc_two_interval_Sub refraction_calc_two_interval_Mul refraction_calc_two_interval_Div refraction_calc_less interval_Add a0_0 a0_1 a0_2 a0_3 a0_4 a0_5 a1_0 a1_1 a1_2 a1_3 a1_4 a1_5).trans ?_
    refine (refraction_Reflect.nat direction_Dot refraction_calc_scale refraction_calc_two_interval_Add refraction_calc_two_interval_Sub refraction_calc_two_interval_Mul refraction_calc_two_interval_Div refraction_calc_less interval_Add a0_0 a0_1 a0_2 a0_3 a0_4 a0_5 a1_0 a1_1 a1_2 a1_3 a1_4 a1_5 _).trans ?_
    kernel_rfl
  · cases h

/-! ### culet/culetref28.Sub (55) -/
def culetref28_Sub.K {R : Type} (f_culetref28_Valid : Int → Int → Int → Int → Int → Int → (Bool)) (f_culetref28_Calc_Sub : Int → Int → Int → Int → Int → (Int × Int × Int)) (f_culetref28_Calc_done : Int → Int → Int → Int → Int → Int → Int → (Int × Int × Int × Int × Int × Int × Int × Int)) (a0_0 : Int) (a0_1 : Int) (a0_2 : Int) (a0_3 : Int) (a0_4 : Int) (a0_5 : Int) (a1_0 : Int) (a1_1 : Int) (a1_2 : Int) (a1_3 : Int) (a1_4 : Int) (a1_5 : Int) (k : Int × Int × Int × Int × Int × Int × Int → R) : R :=
  let t0 := f_culetref28_Valid a0_0 a0_1 a0_2 a0_3 a0_4 a0_5
  bif !t0 then
    k (0, 0, 0, 0, 0, 0, 1)
  else
    let t1 := f_culetref28_Valid a1_0 a1_1 a1_2 a1_3 a1_4 a1_5
    bif !t1 then
      k (0, 0, 0, 0, 0, 0, 1)
    else
      let t2 := f_culetref28_Calc_Sub 0 a0_0 a0_1 a1_0 a1_1
      let t3 := f_culetref28_Calc_Sub t2.snd.snd a0_2 a0_3 a1_2 a1_3
      let t4 := f_culetref28_Calc_Sub t3.snd.snd a0_4 a0_5 a1_4 a1_5
      let t5 := f_culetref28_Calc_done t4.snd.snd t2.fst t2.snd.fst t3.fst t3.snd.fst t4.fst t4.snd.fst
      k (t5.fst, t5.snd.fst, t5.snd.snd.fst, t5.snd.snd.snd.fst, t5.snd.snd.snd.snd.fst, t5.snd.snd.snd.snd.snd.fst, t5.snd.snd.snd.snd.snd.snd.fst)
set_option maxRecDepth 100000 in
theorem culetref28_Sub.run (f_culetref28_Valid : Int → Int → Int → Int → Int → Int → (Bool)) (f_culetref28_Calc_Sub : Int → Int → Int → Int → Int → (Int × Int × Int)) (f_culetref28_Calc_done : Int → Int → Int → Int → Int → Int → Int → (Int × Int × Int × Int × Int × Int × Int × Int)) (a0_0 : Int) (a0_1 : Int) (a0_2 : Int) (a0_3 : Int) (a0_4 : Int) (a0_5 : Int) (a1_0 : Int) (a1_1 : Int) (a1_2 : Int) (a1_3 : Int) (a1_4 : Int) (a1_5 : Int) : xfn Try.prog ⟨[(25, culetref28_Valid.sp f_culetref28_Valid), (48, culetref28_Calc_Sub.sp f_culetref28_Calc_Sub), (81, culetref28_Calc_done.sp f_culetref28_Calc_done)], []⟩ [] 40 Try.f55 [.agg ⟨[.int .i64 a0_0, .int .i64 a0_1, .int .i64 a0_2, .int .i64 a0_3, .int .i64 a0_4, .int .i64 a0_5]⟩, .agg ⟨[.int .i64 a1_0, .int .i64 a1_1, .int .i64 a1_2, .int .i64 a1_3, .int .i64 a1_4, .int .i64 a1_5]⟩] [] = culetref28_Sub.K f_culetref28_Valid f_culetref28_Calc_Sub f_culetref28_Calc_done a0_0 a0_1 a0_2 a0_3 a0_4 a0_5 a1_0 a1_1 a1_2 a1_3 a1_4 a1_5 (fun r => some (.tuple ⟨[.agg ⟨[.int .i64 r.1, .int .i64 r.2.1, .int .i64 r.2.2.1, .int .i64 r.2.2.2.1, .int .i64 r.2.2.2.2.1, .int .i64 r.2.2.2.2.2.1]⟩, .int .i64 r.2.2.2.2.2.2]⟩, [])) := by kernel_rfl
def culetref28_Sub (a0_0 : Int) (a0_1 : Int) (a0_2 : Int) (a0_3 : Int) (a0_4 : Int) (a0_5 : Int) (a1_0 : Int) (a1_1 : Int) (a1_2 : Int) (a1_3 : Int) (a1_4 : Int) (a1_5 : Int) : Int × Int × Int × Int × Int × Int × Int := culetref28_Sub.K culetref28_Valid culetref28_Calc_Sub culetref28_Calc_done a0_0 a0_1 a0_2 a0_3 a0_4 a0_5 a1_0 a1_1 a1_2 a1_3 a1_4 a1_5 id
theorem culetref28_Sub.nat {R : Type} (f_culetref28_Valid : Int → Int → Int → Int → Int → Int → (Bool)) (f_culetref28_Calc_Sub : Int → Int → Int → Int → Int → (Int × Int × Int)) (f_culetref28_Calc_done : Int → Int → Int → Int → Int → Int → Int → (Int × Int × Int × Int × Int × Int × Int × Int)) (a0_0 : Int) (a0_1 : Int) (a0_2 : Int) (a0_3 : Int) (a0_4 : Int) (a0_5 : Int) (a1_0 : Int) (a1_1 : Int) (a1_2 : Int) (a1_3 : Int) (a1_4 : Int) (a1_5 : Int) (k : Int × Int × Int × Int × Int × Int × Int → R) : culetref28_Sub.K f_culetref28_Valid f_culetref28_Calc_Sub f_culetref28_Calc_done a0_0 a0_1 a0_2 a0_3 a0_4 a0_5 a1_0 a1_1 a1_2 a1_3 a1_4 a1_5 k = k (culetref28_Sub.K f_culetref28_Valid f_culetref28_Calc_Sub f_culetref28_Calc_done a0_0 a0_1 a0_2 a0_3 a0_4 a0_5 a1_0 a1_1 a1_2 a1_3 a1_4 a1_5 id) := by
  simp only [culetref28_Sub.K, acond k, id_eq]
theorem culetref28_Sub.eq (a0 a1 a2 a3 a4 a5 b0 b1 b2 b3 b4 b5 : Int) : culetref28_Sub a0 a1 a2 a3 a4 a5 b0 b1 b2 b3 b4 b5 = o7 (dsub ((a0, a1), (a2, a3), (a4, a5)) ((b0, b1), (b2, b3), (b4, b5))) := by
  simp only [culetref28_Sub, culetref28_Sub.K, id_eq, culetref28_Valid.eq, culetref28_Calc_Sub.eq, culetref28_Calc_done, culetref28_Calc_done.K, id_eq, dsub, dzip, subR]
  cases hV0 : VB ((a0, a1), (a2, a3), (a4, a5)) with
  | false =>
    simp only [hV0, st0, kr0, st70, t3_ok, bind_ok, bind_er, o7, o3, o2, o11, V2_mk, kp0, cond_true, cond_false, Bool.not_true, Bool.not_false, Bool.false_and, Bool.and_false, Bool.true_and, Bool.and_true, bne_self_eq_false, beq_self_eq_true, if_true, if_false]
  | true =>
    cases hV1 : VB ((b0, b1), (b2, b3), (b4, b5)) with
    | false =>
      simp only [hV0, hV1, st0, kr0, st70, t3_ok, bind_ok, bind_er, o7, o3, o2, o11, V2_mk, kp0, cond_true, cond_false, Bool.not_true, Bool.not_false, Bool.false_and, Bool.and_false, Bool.true_and, Bool.and_true, bne_self_eq_false, beq_self_eq_true, if_true, if_false]
    | true =>
      rcases t3c (isub a0 a1 b0 b1) with ⟨x0, x1, h0⟩ | ⟨x0, x1, e0, n0, h0⟩
      · simp only [hV0, hV1, h0, st0, kr0, st70, t3_ok, bind_ok, bind_er, o7, o3, o2, o11, V2_mk, kp0, cond_true, cond_false, Bool.not_true, Bool.not_false, Bool.false_and, Bool.and_false, Bool.true_and, Bool.and_true, bne_self_eq_false, beq_self_eq_true, if_true, if_false]
        rcases t3c (isub a2 a3 b2 b3) with ⟨y0, y1, h1⟩ | ⟨y0, y1, e1, n1, h1⟩
        · simp only [h1, st0, kr0, st70, t3_ok, bind_ok, bind_er, o7, o3, o2, o11, V2_mk, kp0, cond_true, cond_false, Bool.not_true, Bool.not_false, Bool.false_and, Bool.and_false, Bool.true_and, Bool.and_true, bne_self_eq_false, beq_self_eq_true, if_true, if_false]
          rcases t3c (isub a4 a5 b4 b5) with ⟨z0, z1, h2⟩ | ⟨z0, z1, e2, n2, h2⟩
          · simp only [h2, st0, kr0, st70, t3_ok, bind_ok, bind_er, o7, o3, o2, o11, V2_mk, kp0, cond_true, cond_false, Bool.not_true, Bool.not_false, Bool.false_and, Bool.and_false, Bool.true_and, Bool.and_true, bne_self_eq_false, beq_self_eq_true, if_true, if_false]
          · simp only [h2, stE n2, krE n2, st7E n2, t3_er n2, bne_of n2, beq_of n2, kpn _ n2, st0, kr0, st70, t3_ok, bind_ok, bind_er, o7, o3, o2, o11, V2_mk, kp0, cond_true, cond_false, Bool.not_true, Bool.not_false, Bool.false_and, Bool.and_false, Bool.true_and, Bool.and_true, bne_self_eq_false, beq_self_eq_true, if_true, if_false]
        · simp only [h1, stE n1, krE n1, st7E n1, t3_er n1, bne_of n1, beq_of n1, kpn _ n1, st0, kr0, st70, t3_ok, bind_ok, bind_er, o7, o3, o2, o11, V2_mk, kp0, cond_true, cond_false, Bool.not_true, Bool.not_false, Bool.false_and, Bool.and_false, Bool.true_and, Bool.and_true, bne_self_eq_false, beq_self_eq_true, if_true, if_false]
      · simp only [hV0, hV1, h0, stE n0, krE n0, st7E n0, t3_er n0, bne_of n0, beq_of n0, kpn _ n0, st0, kr0, st70, t3_ok, bind_ok, bind_er, o7, o3, o2, o11, V2_mk, kp0, cond_true, cond_false, Bool.not_true, Bool.not_false, Bool.false_and, Bool.and_false, Bool.true_and, Bool.and_true, bne_self_eq_false, beq_self_eq_true, if_true, if_false]
theorem culetref28_Sub.ok : SOK Try.prog 55 (culetref28_Sub.sp culetref28_Sub) := by
  refine sok_of (E := ⟨[(25, culetref28_Valid.sp culetref28_Valid), (48, culetref28_Calc_Sub.sp culetref28_Calc_Sub), (81, culetref28_Calc_done.sp culetref28_Calc_done)], []⟩) ⟨(specs_cons culetref28_Valid.ok (specs_cons culetref28_Calc_Sub.ok (specs_cons culetref28_Calc_done.ok specs_nil))), inl_nil, mixed_ok⟩ 40 Try.func55 (by decide) rfl no_loops fun vs bl v bl' h => ?_
  unfold culetref28_Sub.sp at h
  split at h
  · rename_i a0_0 a0_1 a0_2 a0_3 a0_4 a0_5 a1_0 a1_1 a1_2 a1_3 a1_4 a1_5
    simp only [Option.some.injEq, Prod.mk.injEq, true_and] at h
    obtain ⟨rfl, rfl⟩ := h
    refine ⟨?_, by simp [okV, Nat.blt], clo_spec 8 _ (by kernel_rfl), told_blk (by kernel_rfl)⟩
    refine (culetref28_Sub.run culetref28_Valid culetref28_Calc_Sub culetref28_Calc_done a0_0 a0_1 a0_2 a0_3 a0_4 a0_5 a1_0 a1_1 a1_2 a1_3 a1_4 a1_5).trans ?_
    refine (culetref28_Sub.nat culetref28_Valid culetref28_Calc_Sub culetref28_Calc_done a0_0 a0_1 a0_2 a0_3 a0_4 a0_5 a1_0 a1_1 a1_2 a1_3 a1_4 a1_5 _).trans ?_
    kernel_rfl
  · cases h

/-! ### culet/culetref29.Reflect (17) -/
def culetref29_Reflect.K {R : Type} (f_culetref28_Dot : Int → Int → Int → Int → Int → Int → Int → Int → Int → Int → Int → Int → (Int × Int × Int)) (f_culetref28_Scale : Int → Int → Int → Int → Int → Int → Int → Int → (Int × Int × Int × Int × Int × Int × Int)) (f_culetref27_Add : Int → Int → Int → Int → (Int × Int × Int)) (f_culetref28_Sub : Int → Int → Int → Int → Int → Int → Int → Int → Int → Int → Int → Int → (Int × Int × Int × Int × Int × Int × Int)) (a0_0 : Int) (a0_1 : Int) (a0_2 : Int) (a0_3 : Int) (a0_4 : Int) (a0_5 : Int) (a1_0 : Int) (a1_1 : Int) (a1_2 : Int) (a1_3 : Int) (a1_4 : Int) (a1_5 : Int) (k : Int × Int × Int × Int × Int × Int × Int → R) : R :=
  let t0 := f_culetref28_Dot a0_0 a0_1 a0_2 a0_3 a0_4 a0_5 a1_0 a1_1 a1_2 a1_3 a1_4 a1_5
  bif t0.snd.snd != 0 then
    k (0, 0, 0, 0, 0, 0, t0.snd.snd)
  else
    let t1 := f_culetref27_Add t0.fst t0.snd.fst t0.fst t0.snd.fst
    bif t1.snd.snd != 0 then
      k (0, 0, 0, 0, 0, 0, t1.snd.snd)
    else
      let t2 := f_culetref28_Scale a1_0 a1_1 a1_2 a1_3 a1_4 a1_5 t1.fst t1.snd.fst
      bif t2.snd.snd.snd.snd.snd.snd != 0 then
        k (0, 0, 0, 0, 0, 0, t2.snd.snd.snd.snd.snd.snd)
      else
        let t3 := f_culetref28_Sub a0_0 a0_1 a0_2 a0_3 a0_4 a0_5 t2.fst t2.snd.fst t2.snd.snd.fst t2.snd.snd.snd.fst t2.snd.snd.snd.snd.fst t2.snd.snd.snd.snd.snd.fst
        k (t3.fst, t3.snd.fst, t3.snd.snd.fst, t3.snd.snd.snd.fst, t3.snd.snd.snd.snd.fst, t3.snd.snd.snd.snd.snd.fst, t3.snd.snd.snd.snd.snd.snd)
set_option maxRecDepth 100000 in
theorem culetref29_Reflect.run (f_culetref28_Dot : Int → Int → Int → Int → Int → Int → Int → Int → Int → Int → Int → Int → (Int × Int × Int)) (f_culetref28_Scale : Int → Int → Int → Int → Int → Int → Int → Int → (Int × Int × Int × Int × Int × Int × Int)) (f_culetref27_Add : Int → Int → Int → Int → (Int × Int × Int)) (f_culetref28_Sub : Int → Int → Int → Int → Int → Int → Int → Int → Int → Int → Int → Int → (Int × Int × Int × Int × Int × Int × Int)) (a0_0 : Int) (a0_1 : Int) (a0_2 : Int) (a0_3 : Int) (a0_4 : Int) (a0_5 : Int) (a1_0 : Int) (a1_1 : Int) (a1_2 : Int) (a1_3 : Int) (a1_4 : Int) (a1_5 : Int) : xfn Try.prog ⟨[(43, culetref28_Dot.sp f_culetref28_Dot), (47, culetref28_Scale.sp f_culetref28_Scale), (54, culetref27_Add.sp f_culetref27_Add), (55, culetref28_Sub.sp f_culetref28_Sub)], []⟩ [] 40 Try.f17 [.agg ⟨[.int .i64 a0_0, .int .i64 a0_1, .int .i64 a0_2, .int .i64 a0_3, .int .i64 a0_4, .int .i64 a0_5]⟩, .agg ⟨[.int .i64 a1_0, .int .i64 a1_1, .int .i64 a1_2, .int .i64 a1_3, .int .i64 a1_4, .int .i64 a1_5]⟩] [] = culetref29_Reflect.K f_culetref28_Dot f_culetref28_Scale f_culetref27_Add f_culetref28_Sub a0_0 a0_1 a0_2 a0_3 a0_4 a0_5 a1_0 a1_1 a1_2 a1_3 a1_4 a1_5 (fun r => some (.tuple ⟨[.agg ⟨[.int .i64 r.1, .int .i64 r.2.1, .int .i64 r.2.2.1, .int .i64 r.2.2.2.1, .int .i64 r.2.2.2.2.1, .int .i64 r.2.2.2.2.2.1]⟩, .int .i64 r.2.2.2.2.2.2]⟩, [])) := by kernel_rfl
def culetref29_Reflect (a0_0 : Int) (a0_1 : Int) (a0_2 : Int) (a0_3 : Int) (a0_4 : Int) (a0_5 : Int) (a1_0 : Int) (a1_1 : Int) (a1_2 : Int) (a1_3 : Int) (a1_4 : Int) (a1_5 : Int) : Int × Int × Int × Int × Int × Int × Int := culetref29_Reflect.K culetref28_Dot culetref28_Scale culetref27_Add culetref28_Sub a0_0 a0_1 a0_2 a0_3 a0_4 a0_5 a1_0 a1_1 a1_2 a1_3 a1_4 a1_5 id
theorem culetref29_Reflect.nat {R : Type} (f_culetref28_Dot : Int → Int → Int → Int → Int → Int → Int → Int → Int → Int → Int → Int → (Int × Int × Int)) (f_culetref28_Scale : Int → Int → Int → Int → Int → Int → Int → Int → (Int × Int × Int × Int × Int × Int × Int)) (f_culetref27_Add : Int → Int → Int → Int → (Int × Int × Int)) (f_culetref28_Sub : Int → Int → Int → Int → Int → Int → Int → Int → Int → Int → Int → Int → (Int × Int × Int × Int × Int × Int × Int)) (a0_0 : Int) (a0_1 : Int) (a0_2 : Int) (a0_3 : Int) (a0_4 : Int) (a0_5 : Int) (a1_0 : Int) (a1_1 : Int) (a1_2 : Int) (a1_3 : Int) (a1_4 : Int) (a1_5 : Int) (k : Int × Int × Int × Int × Int × Int × Int → R) : culetref29_Reflect.K f_culetref28_Dot f_culetref28_Scale f_culetref27_Add f_culetref28_Sub a0_0 a0_1 a0_2 a0_3 a0_4 a0_5 a1_0 a1_1 a1_2 a1_3 a1_4 a1_5 k = k (culetref29_Reflect.K f_culetref28_Dot f_culetref28_Scale f_culetref27_Add f_culetref28_Sub a0_0 a0_1 a0_2 a0_3 a0_4 a0_5 a1_0 a1_1 a1_2 a1_3 a1_4 a1_5 id) := by
  simp only [culetref29_Reflect.K, acond k, id_eq]
theorem culetref29_Reflect.eq (a0 a1 a2 a3 a4 a5 b0 b1 b2 b3 b4 b5 : Int) : culetref29_Reflect a0 a1 a2 a3 a4 a5 b0 b1 b2 b3 b4 b5 = o7 (rflx ((a0, a1), (a2, a3), (a4, a5)) ((b0, b1), (b2, b3), (b4, b5))) := by
  simp only [culetref29_Reflect, culetref29_Reflect.K, id_eq, culetref28_Dot.eq, culetref27_Add.eq, culetref28_Scale.eq, culetref28_Sub.eq, rflx, addR]
  rcases (ddot_nz ((a0, a1), (a2, a3), (a4, a5)) ((b0, b1), (b2, b3), (b4, b5))).cases with ⟨⟨x0, x1⟩, h0⟩ | ⟨e0, n0, h0⟩
  · simp only [h0, st0, kr0, st70, t3_ok, bind_ok, bind_er, o7, o3, o2, o11, V2_mk, kp0, cond_true, cond_false, Bool.not_true, Bool.not_false, Bool.false_and, Bool.and_false, Bool.true_and, Bool.and_true, bne_self_eq_false, beq_self_eq_true, if_true, if_false, one_bne]
    rcases t3c (iadd x0 x1 x0 x1) with ⟨m0, m1, h1⟩ | ⟨m0, m1, e1, n1, h1⟩
    · simp only [h1, st0, kr0, st70, t3_ok, bind_ok, bind_er, o7, o3, o2, o11, V2_mk, kp0, cond_true, cond_false, Bool.not_true, Bool.not_false, Bool.false_and, Bool.and_false, Bool.true_and, Bool.and_true, bne_self_eq_false, beq_self_eq_true, if_true, if_false, one_bne]
      rcases (dscale_nz ((b0, b1), (b2, b3), (b4, b5)) (m0, m1)).cases with ⟨⟨⟨s0, s1⟩, ⟨s2, s3⟩, ⟨s4, s5⟩⟩, h2⟩ | ⟨e2, n2, h2⟩
      · simp only [h2, st0, kr0, st70, t3_ok, bind_ok, bind_er, o7, o3, o2, o11, V2_mk, kp0, cond_true, cond_false, Bool.not_true, Bool.not_false, Bool.false_and, Bool.and_false, Bool.true_and, Bool.and_true, bne_self_eq_false, beq_self_eq_true, if_true, if_false, one_bne]
      · simp only [h2, stE n2, krE n2, st7E n2, t3_er n2, bne_of n2, beq_of n2, kpn _ n2, st0, kr0, st70, t3_ok, bind_ok, bind_er, o7, o3, o2, o11, V2_mk, kp0, cond_true, cond_false, Bool.not_true, Bool.not_false, Bool.false_and, Bool.and_false, Bool.true_and, Bool.and_true, bne_self_eq_false, beq_self_eq_true, if_true, if_false, one_bne]
    · simp only [h1, stE n1, krE n1, st7E n1, t3_er n1, bne_of n1, beq_of n1, kpn _ n1, st0, kr0, st70, t3_ok, bind_ok, bind_er, o7, o3, o2, o11, V2_mk, kp0, cond_true, cond_false, Bool.not_true, Bool.not_false, Bool.false_and, Bool.and_false, Bool.true_and, Bool.and_true, bne_self_eq_false, beq_self_eq_true, if_true, if_false, one_bne]
  · simp only [h0, stE n0, krE n0, st7E n0, t3_er n0, bne_of n0, beq_of n0, kpn _ n0, st0, kr0, st70, t3_ok, bind_ok, bind_er, o7, o3, o2, o11, V2_mk, kp0, cond_true, cond_false, Bool.not_true, Bool.not_false, Bool.false_and, Bool.and_false, Bool.true_and, Bool.and_true, bne_self_eq_false, beq_self_eq_true, if_true, if_false, one_bne]
theorem culetref29_Reflect.ok : SOK Try.prog 17 (culetref29_Reflect.sp culetref29_Reflect) := by
  refine sok_of (E := ⟨[(43, culetref28_Dot.sp culetref28_Dot), (47, culetref28_Scale.sp culetref28_Scale), (54, culetref27_Add.sp culetref27_Add), (55, culetref28_Sub.sp culetref28_Sub)], []⟩) ⟨(specs_cons culetref28_Dot.ok (specs_cons culetref28_Scale.ok (specs_cons culetref27_Add.ok (specs_cons culetref28_Sub.ok specs_nil)))), inl_nil, mixed_ok⟩ 40 Try.func17 (by decide) rfl no_loops fun vs bl v bl' h => ?_
  unfold culetref29_Reflect.sp at h
  split at h
  · rename_i a0_0 a0_1 a0_2 a0_3 a0_4 a0_5 a1_0 a1_1 a1_2 a1_3 a1_4 a1_5
    simp only [Option.some.injEq, Prod.mk.injEq, true_and] at h
    obtain ⟨rfl, rfl⟩ := h
    refine ⟨?_, by simp [okV, Nat.blt], clo_spec 8 _ (by kernel_rfl), told_blk (by kernel_rfl)⟩
    refine (culetref29_Reflect.run culetref28_Dot culetref28_Scale culetref27_Add culetref28_Sub a0_0 a0_1 a0_2 a0_3 a0_4 a0_5 a1_0 a1_1 a1_2 a1_3 a1_4 a1_5).trans ?_
    refine (culetref29_Reflect.nat culetref28_Dot culetref28_Scale culetref27_Add culetref28_Sub a0_0 a0_1 a0_2 a0_3 a0_4 a0_5 a1_0 a1_1 a1_2 a1_3 a1_4 a1_5 _).trans ?_
    kernel_rfl
  · cases h

/-! ### culet/culetref29.Decide (21) -/
def culetref29_Decide.K {R : Type} (f_culetref27_Valid : Int → Int → (Bool)) (f_culetref27_Sign : Int → Int → (Int)) (a0_0 : Int) (a0_1 : Int) (k : (Int) → R) : R :=
  let t0 := f_culetref27_Valid a0_0 a0_1
  bif !t0 then
    k (0)
  else
    let t1 := f_culetref27_Sign a0_0 a0_1
    bif t1 == -1 then
      k (1)
    else
      bif t1 == 1 then
        k (2)
      else
        k (3)
set_option maxRecDepth 100000 in
theorem culetref29_Decide.run (f_culetref27_Valid : Int → Int → (Bool)) (f_culetref27_Sign : Int → Int → (Int)) (a0_0 : Int) (a0_1 : Int) : xfn Try.prog ⟨[(26, culetref27_Valid.sp f_culetref27_Valid), (44, culetref27_Sign.sp f_culetref27_Sign)], []⟩ [] 40 Try.f21 [.agg ⟨[.int .i64 a0_0, .int .i64 a0_1]⟩] [] = culetref29_Decide.K f_culetref27_Valid f_culetref27_Sign a0_0 a0_1 (fun r => some (.int .i64 r, [])) := by kernel_rfl
def culetref29_Decide (a0_0 : Int) (a0_1 : Int) : Int := culetref29_Decide.K culetref27_Valid culetref27_Sign a0_0 a0_1 id
theorem culetref29_Decide.nat {R : Type} (f_culetref27_Valid : Int → Int → (Bool)) (f_culetref27_Sign : Int → Int → (Int)) (a0_0 : Int) (a0_1 : Int) (k : (Int) → R) : culetref29_Decide.K f_culetref27_Valid f_culetref27_Sign a0_0 a0_1 k = k (culetref29_Decide.K f_culetref27_Valid f_culetref27_Sign a0_0 a0_1 id) := by
  simp only [culetref29_Decide.K, acond k, id_eq]
theorem culetref29_Decide.eq (a b : Int) : culetref29_Decide a b = dcd (a, b) := by
  simp only [culetref29_Decide, culetref29_Decide.K, id_eq, culetref27_Valid.eq, culetref27_Sign.eq, dcd, V2]
  cases V a b with
  | false => rfl
  | true =>
    rcases isg_val a b with h | h | h <;> rw [h.1] <;> rfl
theorem culetref29_Decide.ok : SOK Try.prog 21 (culetref29_Decide.sp culetref29_Decide) := by
  refine sok_of (E := ⟨[(26, culetref27_Valid.sp culetref27_Valid), (44, culetref27_Sign.sp culetref27_Sign)], []⟩) ⟨(specs_cons culetref27_Valid.ok (specs_cons culetref27_Sign.ok specs_nil)), inl_nil, mixed_ok⟩ 40 Try.func21 (by decide) rfl no_loops fun vs bl v bl' h => ?_
  unfold culetref29_Decide.sp at h
  split at h
  · rename_i a0_0 a0_1
    simp only [Option.some.injEq, Prod.mk.injEq, true_and] at h
    obtain ⟨rfl, rfl⟩ := h
    refine ⟨?_, by simp [okV, Nat.blt], clo_spec 8 _ (by kernel_rfl), told_blk (by kernel_rfl)⟩
    refine (culetref29_Decide.run culetref27_Valid culetref27_Sign a0_0 a0_1).trans ?_
    refine (culetref29_Decide.nat culetref27_Valid culetref27_Sign a0_0 a0_1 _).trans ?_
    kernel_rfl
  · cases h

/-! ### culet/culetref29.Hits (22) -/
def culetref29_Hits.K {R : Type} (f_culetref29_Radicand : Int → Int → Int → Int → (Int × Int × Int)) (f_culetref29_Decide : Int → Int → (Int)) (f_culetref27_Valid : Int → Int → (Bool)) (f_culetref28_Dot : Int → Int → Int → Int → Int → Int → Int → Int → Int → Int → Int → Int → (Int × Int × Int)) (a0_0 : Int) (a0_1 : Int) (a0_2 : Int) (a0_3 : Int) (a0_4 : Int) (a0_5 : Int) (a1_0 : Int) (a1_1 : Int) (a1_2 : Int) (a1_3 : Int) (a1_4 : Int) (a1_5 : Int) (a2_0 : Int) (a2_1 : Int) (k : Int × Int → R) : R :=
  let t0 := f_culetref27_Valid a2_0 a2_1
  bif !t0 then
    k (0, 1)
  else
    let t1 := f_culetref28_Dot a0_0 a0_1 a0_2 a0_3 a0_4 a0_5 a1_0 a1_1 a1_2 a1_3 a1_4 a1_5
    bif t1.snd.snd != 0 then
      k (0, t1.snd.snd)
    else
      let t2 := f_culetref29_Radicand t1.fst t1.snd.fst a2_0 a2_1
      bif t2.snd.snd != 0 then
        k (0, t2.snd.snd)
      else
        let t3 := f_culetref29_Decide t2.fst t2.snd.fst
        k (t3, 0)
set_option maxRecDepth 100000 in
theorem culetref29_Hits.run (f_culetref29_Radicand : Int → Int → Int → Int → (Int × Int × Int)) (f_culetref29_Decide : Int → Int → (Int)) (f_culetref27_Valid : Int → Int → (Bool)) (f_culetref28_Dot : Int → Int → Int → Int → Int → Int → Int → Int → Int → Int → Int → Int → (Int × Int × Int)) (a0_0 : Int) (a0_1 : Int) (a0_2 : Int) (a0_3 : Int) (a0_4 : Int) (a0_5 : Int) (a1_0 : Int) (a1_1 : Int) (a1_2 : Int) (a1_3 : Int) (a1_4 : Int) (a1_5 : Int) (a2_0 : Int) (a2_1 : Int) : xfn Try.prog ⟨[(19, culetref29_Radicand.sp f_culetref29_Radicand), (21, culetref29_Decide.sp f_culetref29_Decide), (26, culetref27_Valid.sp f_culetref27_Valid), (43, culetref28_Dot.sp f_culetref28_Dot)], []⟩ [] 40 Try.f22 [.agg ⟨[.int .i64 a0_0, .int .i64 a0_1, .int .i64 a0_2, .int .i64 a0_3, .int .i64 a0_4, .int .i64 a0_5]⟩, .agg ⟨[.int .i64 a1_0, .int .i64 a1_1, .int .i64 a1_2, .int .i64 a1_3, .int .i64 a1_4, .int .i64 a1_5]⟩, .agg ⟨[.int .i64 a2_0, .int .i64 a2_1]⟩] [] = culetref29_Hits.K f_culetref29_Radicand f_culetref29_Decide f_culetref27_Valid f_culetref28_Dot a0_0 a0_1 a0_2 a0_3 a0_4 a0_5 a1_0 a1_1 a1_2 a1_3 a1_4 a1_5 a2_0 a2_1 (fun r => some (.tuple ⟨[.int .i64 r.1, .int .i64 r.2]⟩, [])) := by kernel_rfl
def culetref29_Hits (a0_0 : Int) (a0_1 : Int) (a0_2 : Int) (a0_3 : Int) (a0_4 : Int) (a0_5 : Int) (a1_0 : Int) (a1_1 : Int) (a1_2 : Int) (a1_3 : Int) (a1_4 : Int) (a1_5 : Int) (a2_0 : Int) (a2_1 : Int) : Int × Int := culetref29_Hits.K culetref29_Radicand culetref29_Decide culetref27_Valid culetref28_Dot a0_0 a0_1 a0_2 a0_3 a0_4 a0_5 a1_0 a1_1 a1_2 a1_3 a1_4 a1_5 a2_0 a2_1 id
theorem culetref29_Hits.nat {R : Type} (f_culetref29_Radicand : Int → Int → Int → Int → (Int × Int × Int)) (f_culetref29_Decide : Int → Int → (Int)) (f_culetref27_Valid : Int → Int → (Bool)) (f_culetref28_Dot : Int → Int → Int → Int → Int → Int → Int → Int → Int → Int → Int → Int → (Int × Int × Int)) (a0_0 : Int) (a0_1 : Int) (a0_2 : Int) (a0_3 : Int) (a0_4 : Int) (a0_5 : Int) (a1_0 : Int) (a1_1 : Int) (a1_2 : Int) (a1_3 : Int) (a1_4 : Int) (a1_5 : Int) (a2_0 : Int) (a2_1 : Int) (k : Int × Int → R) : culetref29_Hits.K f_culetref29_Radicand f_culetref29_Decide f_culetref27_Valid f_culetref28_Dot a0_0 a0_1 a0_2 a0_3 a0_4 a0_5 a1_0 a1_1 a1_2 a1_3 a1_4 a1_5 a2_0 a2_1 k = k (culetref29_Hits.K f_culetref29_Radicand f_culetref29_Decide f_culetref27_Valid f_culetref28_Dot a0_0 a0_1 a0_2 a0_3 a0_4 a0_5 a1_0 a1_1 a1_2 a1_3 a1_4 a1_5 a2_0 a2_1 id) := by
  simp only [culetref29_Hits.K, acond k, id_eq]
theorem culetref29_Hits.eq (a0 a1 a2 a3 a4 a5 b0 b1 b2 b3 b4 b5 r0 r1 : Int) : culetref29_Hits a0 a1 a2 a3 a4 a5 b0 b1 b2 b3 b4 b5 r0 r1 = o2 (hit ((a0, a1), (a2, a3), (a4, a5)) ((b0, b1), (b2, b3), (b4, b5)) (r0, r1)) := by
  simp only [culetref29_Hits, culetref29_Hits.K, id_eq, V2, culetref27_Valid.eq, culetref28_Dot.eq, culetref29_Radicand.eq, culetref29_Decide.eq, hit]
  cases hV0 : V r0 r1 with
  | false =>
    simp only [hV0, st0, kr0, st70, t3_ok, bind_ok, bind_er, o7, o3, o2, o11, V2_mk, kp0, cond_true, cond_false, Bool.not_true, Bool.not_false, Bool.false_and, Bool.and_false, Bool.true_and, Bool.and_true, bne_self_eq_false, beq_self_eq_true, if_true, if_false, one_bne]
  | true =>
    cases hV1 : VB ((a0, a1), (a2, a3), (a4, a5)) with
    | false =>
      simp only [hV0, hV1, ddot_bad1 hV1, st0, kr0, st70, t3_ok, bind_ok, bind_er, o7, o3, o2, o11, V2_mk, kp0, cond_true, cond_false, Bool.not_true, Bool.not_false, Bool.false_and, Bool.and_false, Bool.true_and, Bool.and_true, bne_self_eq_false, beq_self_eq_true, if_true, if_false, one_bne]
    | true =>
      cases hV2 : VB ((b0, b1), (b2, b3), (b4, b5)) with
      | false =>
        simp only [hV0, hV1, hV2, ddot_bad2 hV2, st0, kr0, st70, t3_ok, bind_ok, bind_er, o7, o3, o2, o11, V2_mk, kp0, cond_true, cond_false, Bool.not_true, Bool.not_false, Bool.false_and, Bool.and_false, Bool.true_and, Bool.and_true, bne_self_eq_false, beq_self_eq_true, if_true, if_false, one_bne]
      | true =>
        rcases (ddot_nz ((a0, a1), (a2, a3), (a4, a5)) ((b0, b1), (b2, b3), (b4, b5))).cases with ⟨⟨x0, x1⟩, h0⟩ | ⟨e0, n0, h0⟩
        · simp only [hV0, hV1, hV2, h0, st0, kr0, st70, t3_ok, bind_ok, bind_er, o7, o3, o2, o11, V2_mk, kp0, cond_true, cond_false, Bool.not_true, Bool.not_false, Bool.false_and, Bool.and_false, Bool.true_and, Bool.and_true, bne_self_eq_false, beq_self_eq_true, if_true, if_false, one_bne]
          rcases (rdc_nz (x0, x1) (r0, r1)).cases with ⟨⟨q0, q1⟩, h1⟩ | ⟨e1, n1, h1⟩
          · simp only [h1, st0, kr0, st70, t3_ok, bind_ok, bind_er, o7, o3, o2, o11, V2_mk, kp0, cond_true, cond_false, Bool.not_true, Bool.not_false, Bool.false_and, Bool.and_false, Bool.true_and, Bool.and_true, bne_self_eq_false, beq_self_eq_true, if_true, if_false, one_bne]
          · simp only [h1, stE n1, krE n1, st7E n1, t3_er n1, bne_of n1, beq_of n1, kpn _ n1, st0, kr0, st70, t3_ok, bind_ok, bind_er, o7, o3, o2, o11, V2_mk, kp0, cond_true, cond_false, Bool.not_true, Bool.not_false, Bool.false_and, Bool.and_false, Bool.true_and, Bool.and_true, bne_self_eq_false, beq_self_eq_true, if_true, if_false, one_bne]
        · simp only [hV0, hV1, hV2, h0, stE n0, krE n0, st7E n0, t3_er n0, bne_of n0, beq_of n0, kpn _ n0, st0, kr0, st70, t3_ok, bind_ok, bind_er, o7, o3, o2, o11, V2_mk, kp0, cond_true, cond_false, Bool.not_true, Bool.not_false, Bool.false_and, Bool.and_false, Bool.true_and, Bool.and_true, bne_self_eq_false, beq_self_eq_true, if_true, if_false, one_bne]
theorem culetref29_Hits.ok : SOK Try.prog 22 (culetref29_Hits.sp culetref29_Hits) := by
  refine sok_of (E := ⟨[(19, culetref29_Radicand.sp culetref29_Radicand), (21, culetref29_Decide.sp culetref29_Decide), (26, culetref27_Valid.sp culetref27_Valid), (43, culetref28_Dot.sp culetref28_Dot)], []⟩) ⟨(specs_cons culetref29_Radicand.ok (specs_cons culetref29_Decide.ok (specs_cons culetref27_Valid.ok (specs_cons culetref28_Dot.ok specs_nil)))), inl_nil, mixed_ok⟩ 40 Try.func22 (by decide) rfl no_loops fun vs bl v bl' h => ?_
  unfold culetref29_Hits.sp at h
  split at h
  · rename_i a0_0 a0_1 a0_2 a0_3 a0_4 a0_5 a1_0 a1_1 a1_2 a1_3 a1_4 a1_5 a2_0 a2_1
    simp only [Option.some.injEq, Prod.mk.injEq, true_and] at h
    obtain ⟨rfl, rfl⟩ := h
    refine ⟨?_, by simp [okV, Nat.blt], clo_spec 8 _ (by kernel_rfl), told_blk (by kernel_rfl)⟩
    refine (culetref29_Hits.run culetref29_Radicand culetref29_Decide culetref27_Valid culetref28_Dot a0_0 a0_1 a0_2 a0_3 a0_4 a0_5 a1_0 a1_1 a1_2 a1_3 a1_4 a1_5 a2_0 a2_1).trans ?_
    refine (culetref29_Hits.nat culetref29_Radicand culetref29_Decide culetref27_Valid culetref28_Dot a0_0 a0_1 a0_2 a0_3 a0_4 a0_5 a1_0 a1_1 a1_2 a1_3 a1_4 a1_5 a2_0 a2_1 _).trans ?_
    kernel_rfl
  · cases h

/-! ### culet/culetref27.Div (87) -/
def culetref27_Div.K {R : Type} (f_culetref27_both : Int → Int → Int → Int → (Bool)) (f_culetref27_checked : Int → Int → (Int × Int × Int)) (f_culetref27_floor : Int → Int → (Int)) (f_culetref27_ceil : Int → Int → (Int)) (a0_0 : Int) (a0_1 : Int) (a1_0 : Int) (a1_1 : Int) (k : Int × Int × Int → Option R) : Option R :=
  let t0 := f_culetref27_both a0_0 a0_1 a1_0 a1_1
  bif !t0 then
    k (0, 0, 1)
  else
    bif decide (a1_0 ≤ 0) then
      bif decide (a1_1 ≥ 0) then
        k (0, 0, 10)
      else
        bif bif decide (a1_0 < 0) then IntKind.i64.wrap (-a1_0) != 0 else a1_0 != 0 then
          bif bif decide (a1_1 < 0) then IntKind.i64.wrap (-a1_1) != 0 else a1_1 != 0 then
            bif bif decide (a1_0 < 0) then IntKind.i64.wrap (-a1_0) != 0 else a1_0 != 0 then
              bif bif decide (a1_1 < 0) then IntKind.i64.wrap (-a1_1) != 0 else a1_1 != 0 then
                bif bif decide (a1_0 < 0) then IntKind.i64.wrap (-a1_0) != 0 else a1_0 != 0 then
                  bif bif decide (a1_1 < 0) then IntKind.i64.wrap (-a1_1) != 0 else a1_1 != 0 then
                    bif bif decide (a1_0 < 0) then IntKind.i64.wrap (-a1_0) != 0 else a1_0 != 0 then
                      bif bif decide (a1_1 < 0) then IntKind.i64.wrap (-a1_1) != 0 else a1_1 != 0 then
                        let t1 := f_culetref27_floor (IntKind.i64.wrap (a0_1 * 16777216)) a1_1
                        let t2 := f_culetref27_floor (IntKind.i64.wrap (a0_1 * 16777216)) a1_0
                        let t3 := f_culetref27_floor (IntKind.i64.wrap (a0_0 * 16777216)) a1_1
                        let t4 := f_culetref27_floor (IntKind.i64.wrap (a0_0 * 16777216)) a1_0
                        let t5 := f_culetref27_ceil (IntKind.i64.wrap (a0_1 * 16777216)) a1_1
                        let t6 := f_culetref27_ceil (IntKind.i64.wrap (a0_1 * 16777216)) a1_0
                        let t7 := f_culetref27_ceil (IntKind.i64.wrap (a0_0 * 16777216)) a1_1
                        let t8 := f_culetref27_ceil (IntKind.i64.wrap (a0_0 * 16777216)) a1_0
                        let t9 := f_culetref27_checked (if t1 < if t2 < if t3 < t4 then t3 else t4 then t2 else if t3 < t4 then t3 else t4 then t1 else if t2 < if t3 < t4 then t3 else t4 then t2 else if t3 < t4 then t3 else t4) (if t5 > if t6 > if t7 > t8 then t7 else t8 then t6 else if t7 > t8 then t7 else t8 then t5 else if t6 > if t7 > t8 then t7 else t8 then t6 else if t7 > t8 then t7 else t8)
                        k (t9.fst, t9.snd.fst, t9.snd.snd)
                      else
                        none
                    else
                      none
                  else
                    none
                else
                  none
              else
                none
            else
              none
          else
            none
        else
          none
    else
      bif bif decide (a1_0 < 0) then IntKind.i64.wrap (-a1_0) != 0 else a1_0 != 0 then
        bif bif decide (a1_1 < 0) then IntKind.i64.wrap (-a1_1) != 0 else a1_1 != 0 then
          bif bif decide (a1_0 < 0) then IntKind.i64.wrap (-a1_0) != 0 else a1_0 != 0 then
            bif bif decide (a1_1 < 0) then IntKind.i64.wrap (-a1_1) != 0 else a1_1 != 0 then
              bif bif decide (a1_0 < 0) then IntKind.i64.wrap (-a1_0) != 0 else a1_0 != 0 then
                bif bif decide (a1_1 < 0) then IntKind.i64.wrap (-a1_1) != 0 else a1_1 != 0 then
                  bif bif decide (a1_0 < 0) then IntKind.i64.wrap (-a1_0) != 0 else a1_0 != 0 then
                    bif bif decide (a1_1 < 0) then IntKind.i64.wrap (-a1_1) != 0 else a1_1 != 0 then
                      let t10 := f_culetref27_floor (IntKind.i64.wrap (a0_1 * 16777216)) a1_1
                      let t11 := f_culetref27_floor (IntKind.i64.wrap (a0_1 * 16777216)) a1_0
                      let t12 := f_culetref27_floor (IntKind.i64.wrap (a0_0 * 16777216)) a1_1
                      let t13 := f_culetref27_floor (IntKind.i64.wrap (a0_0 * 16777216)) a1_0
                      let t14 := f_culetref27_ceil (IntKind.i64.wrap (a0_1 * 16777216)) a1_1
                      let t15 := f_culetref27_ceil (IntKind.i64.wrap (a0_1 * 16777216)) a1_0
                      let t16 := f_culetref27_ceil (IntKind.i64.wrap (a0_0 * 16777216)) a1_1
                      let t17 := f_culetref27_ceil (IntKind.i64.wrap (a0_0 * 16777216)) a1_0
                      let t18 := f_culetref27_checked (if t10 < if t11 < if t12 < t13 then t12 else t13 then t11 else if t12 < t13 then t12 else t13 then t10 else if t11 < if t12 < t13 then t12 else t13 then t11 else if t12 < t13 then t12 else t13) (if t14 > if t15 > if t16 > t17 then t16 else t17 then t15 else if t16 > t17 then t16 else t17 then t14 else if t15 > if t16 > t17 then t16 else t17 then t15 else if t16 > t17 then t16 else t17)
                      k (t18.fst, t18.snd.fst, t18.snd.snd)
                    else
                      none
                  else
                    none
                else
                  none
              else
                none
            else
              none
          else
            none
        else
          none
      else
        none
set_option maxRecDepth 100000 in
theorem culetref27_Div.run (f_culetref27_both : Int → Int → Int → Int → (Bool)) (f_culetref27_checked : Int → Int → (Int × Int × Int)) (f_culetref27_floor : Int → Int → (Int)) (f_culetref27_ceil : Int → Int → (Int)) (a0_0 : Int) (a0_1 : Int) (a1_0 : Int) (a1_1 : Int) : xfn Try.prog ⟨[(64, culetref27_both.sp f_culetref27_both), (85, culetref27_checked.sp f_culetref27_checked), (91, culetref27_floor.sp f_culetref27_floor), (92, culetref27_ceil.sp f_culetref27_ceil)], []⟩ [] 40 Try.f87 [.agg ⟨[.int .i64 a0_0, .int .i64 a0_1]⟩, .agg ⟨[.int .i64 a1_0, .int .i64 a1_1]⟩] [] = culetref27_Div.K f_culetref27_both f_culetref27_checked f_culetref27_floor f_culetref27_ceil a0_0 a0_1 a1_0 a1_1 (fun r => some (.tuple ⟨[.agg ⟨[.int .i64 r.1, .int .i64 r.2.1]⟩, .int .i64 r.2.2]⟩, [])) := by kernel_rfl
def culetref27_Div.o (a0_0 : Int) (a0_1 : Int) (a1_0 : Int) (a1_1 : Int) : Option (Int × Int × Int) := culetref27_Div.K culetref27_both culetref27_checked culetref27_floor culetref27_ceil a0_0 a0_1 a1_0 a1_1 some
def culetref27_Div.pre (a0_0 : Int) (a0_1 : Int) (a1_0 : Int) (a1_1 : Int) : Bool := (culetref27_Div.o a0_0 a0_1 a1_0 a1_1).isSome
def culetref27_Div (a0_0 : Int) (a0_1 : Int) (a1_0 : Int) (a1_1 : Int) : Int × Int × Int := (culetref27_Div.o a0_0 a0_1 a1_0 a1_1).getD default
theorem culetref27_Div.nat {R : Type} (f_culetref27_both : Int → Int → Int → Int → (Bool)) (f_culetref27_checked : Int → Int → (Int × Int × Int)) (f_culetref27_floor : Int → Int → (Int)) (f_culetref27_ceil : Int → Int → (Int)) (a0_0 : Int) (a0_1 : Int) (a1_0 : Int) (a1_1 : Int) (k : Int × Int × Int → Option R) : culetref27_Div.K f_culetref27_both f_culetref27_checked f_culetref27_floor f_culetref27_ceil a0_0 a0_1 a1_0 a1_1 k = (culetref27_Div.K f_culetref27_both f_culetref27_checked f_culetref27_floor f_culetref27_ceil a0_0 a0_1 a1_0 a1_1 some).bind k := by
  simp only [culetref27_Div.K, bcond, Option.bind_some, Option.bind_none]
theorem culetref27_Div.o_eq (a b c d : Int) : culetref27_Div.o a b c d = some (idiv a b c d) := by
  simp only [culetref27_Div.o, culetref27_Div.K, culetref27_both.eq, idiv, mnE, mxE]
  cases h : V a b && V c d with
  | false => simp
  | true =>
    have h' := h
    rw [Bool.and_eq_true] at h'
    have := V_iff.1 h'.1
    have := V_iff.1 h'.2
    have w3 : IntKind.i64.wrap (-c) = -c := w64 (by omega) (by omega)
    have w4 : IntKind.i64.wrap (-d) = -d := w64 (by omega) (by omega)
    have w5 : IntKind.i64.wrap (a * 16777216) = a * 16777216 := w64 (by omega) (by omega)
    have w6 : IntKind.i64.wrap (b * 16777216) = b * 16777216 := w64 (by omega) (by omega)
    simp only [w3, w4, w5, w6, Bool.not_true, cond_false, cond_true, culetref27_checked.eq]
    by_cases h3 : c ≤ 0
    · by_cases h4 : d ≥ 0
      · simp [h3, h4]
      · have h5 : d < 0 := by omega
        have h6 : c < 0 := by omega
        have n1 : ((-d) != 0) = true := by simp; omega
        have n2 : ((-c) != 0) = true := by simp; omega
        have n3 : ¬ (c ≤ 0 ∧ 0 ≤ d) := by omega
        have f1 : culetref27_floor (a * 16777216) c = -(a * 16777216) / -c := culetref27_floor.eqn h6 (by omega) (by omega) (by omega)
        have f2 : culetref27_floor (a * 16777216) d = -(a * 16777216) / -d := culetref27_floor.eqn h5 (by omega) (by omega) (by omega)
        have f3 : culetref27_floor (b * 16777216) c = -(b * 16777216) / -c := culetref27_floor.eqn h6 (by omega) (by omega) (by omega)
        have f4 : culetref27_floor (b * 16777216) d = -(b * 16777216) / -d := culetref27_floor.eqn h5 (by omega) (by omega) (by omega)
        have f5 : culetref27_ceil (a * 16777216) c = cl (-(a * 16777216)) (-c) := culetref27_ceil.eqn h6 (by omega) (by omega) (by omega)
        have f6 : culetref27_ceil (a * 16777216) d = cl (-(a * 16777216)) (-d) := culetref27_ceil.eqn h5 (by omega) (by omega) (by omega)
        have f7 : culetref27_ceil (b * 16777216) c = cl (-(b * 16777216)) (-c) := culetref27_ceil.eqn h6 (by omega) (by omega) (by omega)
        have f8 : culetref27_ceil (b * 16777216) d = cl (-(b * 16777216)) (-d) := culetref27_ceil.eqn h5 (by omega) (by omega) (by omega)
        rw [if_neg n3, if_pos h5]
        simp only [h3, h4, h5, h6, n1, n2, decide_true, decide_false, cond_true, cond_false, f1, f2, f3, f4, f5, f6, f7, f8, pdiv, Int.neg_mul]
        have g1 : -(b * 16777216) / -c ≤ -(a * 16777216) / -c := fl_mono (by omega) (by omega)
        have g2 : -(b * 16777216) / -d ≤ -(a * 16777216) / -d := fl_mono (by omega) (by omega)
        have g3 : cl (-(b * 16777216)) (-c) ≤ cl (-(a * 16777216)) (-c) := cl_mono (by omega) (by omega)
        have g4 : cl (-(b * 16777216)) (-d) ≤ cl (-(a * 16777216)) (-d) := cl_mono (by omega) (by omega)
        refine congrArg some (chk_congr ?_ ?_) <;> omega
    · have h5 : ¬ d < 0 := by omega
      have h6 : ¬ c < 0 := by omega
      have n1 : (c != 0) = true := by simp; omega
      have n2 : (d != 0) = true := by simp; omega
      have n3 : ¬ (c ≤ 0 ∧ 0 ≤ d) := by omega
      have hc : 0 < c := by omega
      have hd : 0 < d := by omega
      have f1 : culetref27_floor (a * 16777216) c = a * 16777216 / c := culetref27_floor.eq hc (by omega) (by omega)
      have f2 : culetref27_floor (a * 16777216) d = a * 16777216 / d := culetref27_floor.eq hd (by omega) (by omega)
      have f3 : culetref27_floor (b * 16777216) c = b * 16777216 / c := culetref27_floor.eq hc (by omega) (by omega)
      have f4 : culetref27_floor (b * 16777216) d = b * 16777216 / d := culetref27_floor.eq hd (by omega) (by omega)
      have f5 : culetref27_ceil (a * 16777216) c = cl (a * 16777216) c := culetref27_ceil.eq hc (by omega) (by omega)
      have f6 : culetref27_ceil (a * 16777216) d = cl (a * 16777216) d := culetref27_ceil.eq hd (by omega) (by omega)
      have f7 : culetref27_ceil (b * 16777216) c = cl (b * 16777216) c := culetref27_ceil.eq hc (by omega) (by omega)
      have f8 : culetref27_ceil (b * 16777216) d = cl (b * 16777216) d := culetref27_ceil.eq hd (by omega) (by omega)
      rw [if_neg n3, if_neg h5]
      simp only [h3, h5, h6, n1, n2, decide_true, decide_false, cond_true, cond_false, f1, f2, f3, f4, f5, f6, f7, f8, pdiv]
      have g1 : a * 16777216 / c ≤ b * 16777216 / c := fl_mono hc (by omega)
      have g2 : a * 16777216 / d ≤ b * 16777216 / d := fl_mono hd (by omega)
      have g3 : cl (a * 16777216) c ≤ cl (b * 16777216) c := cl_mono hc (by omega)
      have g4 : cl (a * 16777216) d ≤ cl (b * 16777216) d := cl_mono hd (by omega)
      refine congrArg some (chk_congr ?_ ?_) <;> omega
theorem culetref27_Div.total (a b c d : Int) : (culetref27_Div.o a b c d).isSome = true := by rw [culetref27_Div.o_eq]; rfl
theorem culetref27_Div.eq (a b c d : Int) : culetref27_Div a b c d = idiv a b c d := by rw [culetref27_Div, culetref27_Div.o_eq]; rfl
theorem culetref27_Div.ok : SOK Try.prog 87 (culetref27_Div.sp culetref27_Div) := by
  refine sok_of (E := ⟨[(64, culetref27_both.sp culetref27_both), (85, culetref27_checked.sp culetref27_checked), (91, culetref27_floor.sp culetref27_floor), (92, culetref27_ceil.sp culetref27_ceil)], []⟩) ⟨(specs_cons culetref27_both.ok (specs_cons culetref27_checked.ok (specs_cons culetref27_floor.ok (specs_cons culetref27_ceil.ok specs_nil)))), inl_nil, mixed_ok⟩ 40 Try.func87 (by decide) rfl no_loops fun vs bl v bl' h => ?_
  unfold culetref27_Div.sp at h
  split at h
  · rename_i a0_0 a0_1 a1_0 a1_1
    simp only [Option.some.injEq, Prod.mk.injEq] at h
    obtain ⟨hp, rfl, rfl⟩ := h
    have hr := culetref27_Div.run culetref27_both culetref27_checked culetref27_floor culetref27_ceil a0_0 a0_1 a1_0 a1_1
    rw [culetref27_Div.nat] at hr
    obtain ⟨r, h2⟩ := Option.isSome_iff_exists.1 (culetref27_Div.total a0_0 a0_1 a1_0 a1_1 : (culetref27_Div.o a0_0 a0_1 a1_0 a1_1).isSome = true)
    have h3 : culetref27_Div a0_0 a0_1 a1_0 a1_1 = r := by unfold culetref27_Div; rw [h2]; rfl
    have h4 : culetref27_Div.K culetref27_both culetref27_checked culetref27_floor culetref27_ceil a0_0 a0_1 a1_0 a1_1 some = some r := h2
    rw [h4, Option.bind_some] at hr
    rw [h3]
    exact ⟨hr, by simp [okV, Nat.blt], clo_spec 8 _ (by kernel_rfl), told_blk (by kernel_rfl)⟩
  · cases h

/-! ### (*culet/culetref28.Calc).Div (61) -/
def culetref28_Calc_Div.K {R : Type} (f_culetref28_Calc_kept : Int → Int → Int → Int → (Int × Int × Int)) (f_culetref27_Div : Int → Int → Int → Int → (Int × Int × Int)) (s0_0 : Int) (a1_0 : Int) (a1_1 : Int) (a2_0 : Int) (a2_1 : Int) (k : Int × Int × Int → R) : R :=
  let t0 := f_culetref27_Div a1_0 a1_1 a2_0 a2_1
  let t1 := f_culetref28_Calc_kept s0_0 t0.fst t0.snd.fst t0.snd.snd
  k (t1.fst, t1.snd.fst, t1.snd.snd)
set_option maxRecDepth 100000 in
theorem culetref28_Calc_Div.run (f_culetref28_Calc_kept : Int → Int → Int → Int → (Int × Int × Int)) (f_culetref27_Div : Int → Int → Int → Int → (Int × Int × Int)) (s0_0 : Int) (a1_0 : Int) (a1_1 : Int) (a2_0 : Int) (a2_1 : Int) : xfn Try.prog ⟨[(79, culetref28_Calc_kept.sp f_culetref28_Calc_kept), (87, culetref27_Div.sp f_culetref27_Div)], []⟩ [] 40 Try.f61 [.pointer (some ⟨0, 0, none⟩), .agg ⟨[.int .i64 a1_0, .int .i64 a1_1]⟩, .agg ⟨[.int .i64 a2_0, .int .i64 a2_1]⟩] [.cs [.int .i64 s0_0] 71] = culetref28_Calc_Div.K f_culetref28_Calc_kept f_culetref27_Div s0_0 a1_0 a1_1 a2_0 a2_1 (fun r => some (.agg ⟨[.int .i64 r.1, .int .i64 r.2.1]⟩, [.cs [.int .i64 r.2.2] 71])) := by kernel_rfl
def culetref28_Calc_Div (s0_0 : Int) (a1_0 : Int) (a1_1 : Int) (a2_0 : Int) (a2_1 : Int) : Int × Int × Int := culetref28_Calc_Div.K culetref28_Calc_kept culetref27_Div s0_0 a1_0 a1_1 a2_0 a2_1 id
theorem culetref28_Calc_Div.nat {R : Type} (f_culetref28_Calc_kept : Int → Int → Int → Int → (Int × Int × Int)) (f_culetref27_Div : Int → Int → Int → Int → (Int × Int × Int)) (s0_0 : Int) (a1_0 : Int) (a1_1 : Int) (a2_0 : Int) (a2_1 : Int) (k : Int × Int × Int → R) : culetref28_Calc_Div.K f_culetref28_Calc_kept f_culetref27_Div s0_0 a1_0 a1_1 a2_0 a2_1 k = k (culetref28_Calc_Div.K f_culetref28_Calc_kept f_culetref27_Div s0_0 a1_0 a1_1 a2_0 a2_1 id) := by
  simp only [culetref28_Calc_Div.K, acond k, id_eq]
theorem culetref28_Calc_Div.eq (s a b c d : Int) : culetref28_Calc_Div s a b c d = kr s (idiv a b c d) := by
  simp only [culetref28_Calc_Div, culetref28_Calc_Div.K, id_eq, culetref27_Div.eq, kept_eq, kr]
theorem culetref28_Calc_Div.ok : SOK Try.prog 61 (culetref28_Calc_Div.sp culetref28_Calc_Div) := by
  refine sok_of (E := ⟨[(79, culetref28_Calc_kept.sp culetref28_Calc_kept), (87, culetref27_Div.sp culetref27_Div)], []⟩) ⟨(specs_cons culetref28_Calc_kept.ok (specs_cons culetref27_Div.ok specs_nil)), inl_nil, mixed_ok⟩ 40 Try.func61 (by decide) rfl no_loops fun vs bl v bl' h => ?_
  unfold culetref28_Calc_Div.sp at h
  split at h
  · rename_i a1_0 a1_1 a2_0 a2_1 s0_0
    simp only [Option.some.injEq, Prod.mk.injEq, true_and] at h
    obtain ⟨rfl, rfl⟩ := h
    refine ⟨?_, by simp [okV, Nat.blt], clo_spec 8 _ (by kernel_rfl), told_blk (by kernel_rfl)⟩
    refine (culetref28_Calc_Div.run culetref28_Calc_kept culetref27_Div s0_0 a1_0 a1_1 a2_0 a2_1).trans ?_
    refine (culetref28_Calc_Div.nat culetref28_Calc_kept culetref27_Div s0_0 a1_0 a1_1 a2_0 a2_1 _).trans ?_
    kernel_rfl
  · cases h

/-! ### culet/culetref29.Critical (24) -/
def culetref29_Critical.K {R : Type} (f_culetref28_One : (Int × Int)) (f_culetref27_Valid : Int → Int → (Bool)) (f_culetref28_Calc_Sub : Int → Int → Int → Int → Int → (Int × Int × Int)) (f_culetref28_Calc_Square : Int → Int → Int → (Int × Int × Int)) (f_culetref28_Calc_Div : Int → Int → Int → Int → Int → (Int × Int × Int)) (f_culetref27_Sqrt : Int → Int → (Int × Int × Int)) (a0_0 : Int) (a0_1 : Int) (k : Int × Int × Int → R) : R :=
  let t0 := f_culetref27_Valid a0_0 a0_1
  bif !t0 then
    k (0, 0, 1)
  else
    bif decide (a0_0 < 16777216) then
      k (0, 0, 2)
    else
      let t1 := f_culetref28_Calc_Square 0 a0_0 a0_1
      let t2 := f_culetref28_Calc_Div t1.snd.snd f_culetref28_One.fst f_culetref28_One.snd t1.fst t1.snd.fst
      let t3 := f_culetref28_Calc_Sub t2.snd.snd f_culetref28_One.fst f_culetref28_One.snd t2.fst t2.snd.fst
      bif t3.snd.snd != 0 then
        k (0, 0, t3.snd.snd)
      else
        let t4 := f_culetref27_Sqrt t3.fst t3.snd.fst
        k (t4.fst, t4.snd.fst, t4.snd.snd)
set_option maxRecDepth 100000 in
theorem culetref29_Critical.run (f_culetref28_One : (Int × Int)) (f_culetref27_Valid : Int → Int → (Bool)) (f_culetref28_Calc_Sub : Int → Int → Int → Int → Int → (Int × Int × Int)) (f_culetref28_Calc_Square : Int → Int → Int → (Int × Int × Int)) (f_culetref28_Calc_Div : Int → Int → Int → Int → Int → (Int × Int × Int)) (f_culetref27_Sqrt : Int → Int → (Int × Int × Int)) (a0_0 : Int) (a0_1 : Int) : xfn Try.prog ⟨[(13, culetref28_One.sp f_culetref28_One), (26, culetref27_Valid.sp f_culetref27_Valid), (48, culetref28_Calc_Sub.sp f_culetref28_Calc_Sub), (59, culetref28_Calc_Square.sp f_culetref28_Calc_Square), (61, culetref28_Calc_Div.sp f_culetref28_Calc_Div), (62, culetref27_Sqrt.sp f_culetref27_Sqrt)], []⟩ [] 40 Try.f24 [.agg ⟨[.int .i64 a0_0, .int .i64 a0_1]⟩] [] = culetref29_Critical.K f_culetref28_One f_culetref27_Valid f_culetref28_Calc_Sub f_culetref28_Calc_Square f_culetref28_Calc_Div f_culetref27_Sqrt a0_0 a0_1 (fun r => some (.tuple ⟨[.agg ⟨[.int .i64 r.1, .int .i64 r.2.1]⟩, .int .i64 r.2.2]⟩, [])) := by kernel_rfl
def culetref29_Critical (a0_0 : Int) (a0_1 : Int) : Int × Int × Int := culetref29_Critical.K culetref28_One culetref27_Valid culetref28_Calc_Sub culetref28_Calc_Square culetref28_Calc_Div culetref27_Sqrt a0_0 a0_1 id
theorem culetref29_Critical.nat {R : Type} (f_culetref28_One : (Int × Int)) (f_culetref27_Valid : Int → Int → (Bool)) (f_culetref28_Calc_Sub : Int → Int → Int → Int → Int → (Int × Int × Int)) (f_culetref28_Calc_Square : Int → Int → Int → (Int × Int × Int)) (f_culetref28_Calc_Div : Int → Int → Int → Int → Int → (Int × Int × Int)) (f_culetref27_Sqrt : Int → Int → (Int × Int × Int)) (a0_0 : Int) (a0_1 : Int) (k : Int × Int × Int → R) : culetref29_Critical.K f_culetref28_One f_culetref27_Valid f_culetref28_Calc_Sub f_culetref28_Calc_Square f_culetref28_Calc_Div f_culetref27_Sqrt a0_0 a0_1 k = k (culetref29_Critical.K f_culetref28_One f_culetref27_Valid f_culetref28_Calc_Sub f_culetref28_Calc_Square f_culetref28_Calc_Div f_culetref27_Sqrt a0_0 a0_1 id) := by
  simp only [culetref29_Critical.K, acond k, id_eq]
theorem isr_z {a b x y e : Int} (h : isr a b = (x, y, e)) (he : e ≠ 0) : x = 0 ∧ y = 0 := by
  unfold isr at h
  cases hv : V a b with
  | false => simp only [hv, cond_false, Prod.mk.injEq] at h; omega
  | true =>
    by_cases ha : a < 0
    · simp only [hv, ha, cond_true, if_true, Prod.mk.injEq] at h; omega
    · simp only [hv, ha, cond_true, if_false, Prod.mk.injEq] at h; omega
theorem culetref29_Critical.eq (a b : Int) : culetref29_Critical a b = o3 (crt (a, b)) := by
  simp only [culetref29_Critical, culetref29_Critical.K, id_eq, culetref27_Valid.eq, culetref28_One.eq, culetref28_Calc_Square.eq, culetref28_Calc_Div.eq, culetref28_Calc_Sub.eq, culetref27_Sqrt.eq, crt, V2, sqR, divR, subR, rtR, one2]
  cases hV0 : V a b with
  | false =>
    simp only [hV0, st0, kr0, st70, t3_ok, bind_ok, bind_er, o7, o3, o2, o11, V2_mk, kp0, cond_true, cond_false, Bool.not_true, Bool.not_false, Bool.false_and, Bool.and_false, Bool.true_and, Bool.and_true, bne_self_eq_false, beq_self_eq_true, if_true, if_false, one_bne]
  | true =>
    by_cases h0 : a < 16777216
    · have g0 := decide_eq_true h0
      simp only [hV0, if_pos h0, g0, st0, kr0, st70, t3_ok, bind_ok, bind_er, o7, o3, o2, o11, V2_mk, kp0, cond_true, cond_false, Bool.not_true, Bool.not_false, Bool.false_and, Bool.and_false, Bool.true_and, Bool.and_true, bne_self_eq_false, beq_self_eq_true, if_true, if_false, one_bne]
    · have g0 := decide_eq_false h0
      simp only [hV0, if_neg h0, g0, st0, kr0, st70, t3_ok, bind_ok, bind_er, o7, o3, o2, o11, V2_mk, kp0, cond_true, cond_false, Bool.not_true, Bool.not_false, Bool.false_and, Bool.and_false, Bool.true_and, Bool.and_true, bne_self_eq_false, beq_self_eq_true, if_true, if_false, one_bne]
      rcases t3c (isq a b) with ⟨q0, q1, h1⟩ | ⟨q0, q1, e1, n1, h1⟩
      · simp only [h1, st0, kr0, st70, t3_ok, bind_ok, bind_er, o7, o3, o2, o11, V2_mk, kp0, cond_true, cond_false, Bool.not_true, Bool.not_false, Bool.false_and, Bool.and_false, Bool.true_and, Bool.and_true, bne_self_eq_false, beq_self_eq_true, if_true, if_false, one_bne]
        rcases t3c (idiv 16777216 16777216 q0 q1) with ⟨d0, d1, h2⟩ | ⟨d0, d1, e2, n2, h2⟩
        · simp only [h2, st0, kr0, st70, t3_ok, bind_ok, bind_er, o7, o3, o2, o11, V2_mk, kp0, cond_true, cond_false, Bool.not_true, Bool.not_false, Bool.false_and, Bool.and_false, Bool.true_and, Bool.and_true, bne_self_eq_false, beq_self_eq_true, if_true, if_false, one_bne]
          rcases t3c (isub 16777216 16777216 d0 d1) with ⟨s0, s1, h3⟩ | ⟨s0, s1, e3, n3, h3⟩
          · simp only [h3, st0, kr0, st70, t3_ok, bind_ok, bind_er, o7, o3, o2, o11, V2_mk, kp0, cond_true, cond_false, Bool.not_true, Bool.not_false, Bool.false_and, Bool.and_false, Bool.true_and, Bool.and_true, bne_self_eq_false, beq_self_eq_true, if_true, if_false, one_bne]
            rcases t3c (isr s0 s1) with ⟨t0, t1, h4⟩ | ⟨t0, t1, e4, n4, h4⟩
            · simp only [h4, st0, kr0, st70, t3_ok, bind_ok, bind_er, o7, o3, o2, o11, V2_mk, kp0, cond_true, cond_false, Bool.not_true, Bool.not_false, Bool.false_and, Bool.and_false, Bool.true_and, Bool.and_true, bne_self_eq_false, beq_self_eq_true, if_true, if_false, one_bne]
            · obtain ⟨rfl, rfl⟩ := isr_z h4 n4
              simp only [h4, stE n4, krE n4, st7E n4, t3_er n4, bne_of n4, beq_of n4, kpn _ n4, st0, kr0, st70, t3_ok, bind_ok, bind_er, o7, o3, o2, o11, V2_mk, kp0, cond_true, cond_false, Bool.not_true, Bool.not_false, Bool.false_and, Bool.and_false, Bool.true_and, Bool.and_true, bne_self_eq_false, beq_self_eq_true, if_true, if_false, one_bne]
          · simp only [h3, stE n3, krE n3, st7E n3, t3_er n3, bne_of n3, beq_of n3, kpn _ n3, st0, kr0, st70, t3_ok, bind_ok, bind_er, o7, o3, o2, o11, V2_mk, kp0, cond_true, cond_false, Bool.not_true, Bool.not_false, Bool.false_and, Bool.and_false, Bool.true_and, Bool.and_true, bne_self_eq_false, beq_self_eq_true, if_true, if_false, one_bne]
        · simp only [h2, stE n2, krE n2, st7E n2, t3_er n2, bne_of n2, beq_of n2, kpn _ n2, st0, kr0, st70, t3_ok, bind_ok, bind_er, o7, o3, o2, o11, V2_mk, kp0, cond_true, cond_false, Bool.not_true, Bool.not_false, Bool.false_and, Bool.and_false, Bool.true_and, Bool.and_true, bne_self_eq_false, beq_self_eq_true, if_true, if_false, one_bne]
      · simp only [h1, stE n1, krE n1, st7E n1, t3_er n1, bne_of n1, beq_of n1, kpn _ n1, st0, kr0, st70, t3_ok, bind_ok, bind_er, o7, o3, o2, o11, V2_mk, kp0, cond_true, cond_false, Bool.not_true, Bool.not_false, Bool.false_and, Bool.and_false, Bool.true_and, Bool.and_true, bne_self_eq_false, beq_self_eq_true, if_true, if_false, one_bne]
theorem culetref29_Critical.ok : SOK Try.prog 24 (culetref29_Critical.sp culetref29_Critical) := by
  refine sok_of (E := ⟨[(13, culetref28_One.sp culetref28_One), (26, culetref27_Valid.sp culetref27_Valid), (48, culetref28_Calc_Sub.sp culetref28_Calc_Sub), (59, culetref28_Calc_Square.sp culetref28_Calc_Square), (61, culetref28_Calc_Div.sp culetref28_Calc_Div), (62, culetref27_Sqrt.sp culetref27_Sqrt)], []⟩) ⟨(specs_cons culetref28_One.ok (specs_cons culetref27_Valid.ok (specs_cons culetref28_Calc_Sub.ok (specs_cons culetref28_Calc_Square.ok (specs_cons culetref28_Calc_Div.ok (specs_cons culetref27_Sqrt.ok specs_nil)))))), inl_nil, mixed_ok⟩ 40 Try.func24 (by decide) rfl no_loops fun vs bl v bl' h => ?_
  unfold culetref29_Critical.sp at h
  split at h
  · rename_i a0_0 a0_1
    simp only [Option.some.injEq, Prod.mk.injEq, true_and] at h
    obtain ⟨rfl, rfl⟩ := h
    refine ⟨?_, by simp [okV, Nat.blt], clo_spec 8 _ (by kernel_rfl), told_blk (by kernel_rfl)⟩
    refine (culetref29_Critical.run culetref28_One culetref27_Valid culetref28_Calc_Sub culetref28_Calc_Square culetref28_Calc_Div culetref27_Sqrt a0_0 a0_1).trans ?_
    refine (culetref29_Critical.nat culetref28_One culetref27_Valid culetref28_Calc_Sub culetref28_Calc_Square culetref28_Calc_Div culetref27_Sqrt a0_0 a0_1 _).trans ?_
    kernel_rfl
  · cases h

/-! ### culet/culetlaw29.RefractionForms (6) -/
def culetlaw29_RefractionForms.K {R : Type} (f_culetlaw29_awake : (Bool)) (f_culetlaw29_theirs : Int → Int → Int → Int → Int → Int → (Int × Int × Int × Int × Int × Int)) (f_refraction_Hits : Int → Int → Int → Int → Int → Int → Int → Int → Int → Int → Int → Int → Int → Int → (Int × Int)) (f_refraction_Reflect : Int → Int → Int → Int → Int → Int → Int → Int → Int → Int → Int → Int → (Int × Int × Int × Int × Int × Int × Int)) (f_culetref29_Reflect : Int → Int → Int → Int → Int → Int → Int → Int → Int → Int → Int → Int → (Int × Int × Int × Int × Int × Int × Int)) (f_refraction_Radicand : Int → Int → Int → Int → (Int × Int × Int)) (f_culetref29_Radicand : Int → Int → Int → Int → (Int × Int × Int)) (f_refraction_Decide : Int → Int → (Int)) (f_culetref29_Decide : Int → Int → (Int)) (f_culetref29_Hits : Int → Int → Int → Int → Int → Int → Int → Int → Int → Int → Int → Int → Int → Int → (Int × Int)) (f_refraction_Critical : Int → Int → (Int × Int × Int)) (f_culetref29_Critical : Int → Int → (Int × Int × Int)) (a0_0 : Int) (a0_1 : Int) (a0_2 : Int) (a0_3 : Int) (a0_4 : Int) (a0_5 : Int) (a1_0 : Int) (a1_1 : Int) (a1_2 : Int) (a1_3 : Int) (a1_4 : Int) (a1_5 : Int) (a2_0 : Int) (a2_1 : Int) (k : (Bool) → R) : R :=
  bif !f_culetlaw29_awake then
    k (false)
  else
    let t0 := f_refraction_Reflect a0_0 a0_1 a0_2 a0_3 a0_4 a0_5 a1_0 a1_1 a1_2 a1_3 a1_4 a1_5
    let t1 := f_culetlaw29_theirs t0.fst t0.snd.fst t0.snd.snd.fst t0.snd.snd.snd.fst t0.snd.snd.snd.snd.fst t0.snd.snd.snd.snd.snd.fst
    let t2 := f_culetlaw29_theirs a0_0 a0_1 a0_2 a0_3 a0_4 a0_5
    let t3 := f_culetlaw29_theirs a1_0 a1_1 a1_2 a1_3 a1_4 a1_5
    let t4 := f_culetref29_Reflect t2.fst t2.snd.fst t2.snd.snd.fst t2.snd.snd.snd.fst t2.snd.snd.snd.snd.fst t2.snd.snd.snd.snd.snd t3.fst t3.snd.fst t3.snd.snd.fst t3.snd.snd.snd.fst t3.snd.snd.snd.snd.fst t3.snd.snd.snd.snd.snd
    bif !(t1.fst == t4.fst && t1.snd.fst == t4.snd.fst && (t1.snd.snd.fst == t4.snd.snd.fst && t1.snd.snd.snd.fst == t4.snd.snd.snd.fst && (t1.snd.snd.snd.snd.fst == t4.snd.snd.snd.snd.fst && t1.snd.snd.snd.snd.snd == t4.snd.snd.snd.snd.snd.fst))) then
      k (false)
    else
      bif t0.snd.snd.snd.snd.snd.snd != t4.snd.snd.snd.snd.snd.snd then
        k (false)
      else
        let t5 := f_refraction_Radicand a0_0 a0_1 a2_0 a2_1
        let t6 := f_culetref29_Radicand a0_0 a0_1 a2_0 a2_1
        bif !(t5.fst == t6.fst && t5.snd.fst == t6.snd.fst) then
          k (false)
        else
          bif t5.snd.snd != t6.snd.snd then
            k (false)
          else
            let t7 := f_refraction_Decide a2_0 a2_1
            let t8 := f_culetref29_Decide a2_0 a2_1
            bif t7 != t8 then
              k (false)
            else
              let t9 := f_refraction_Hits a0_0 a0_1 a0_2 a0_3 a0_4 a0_5 a1_0 a1_1 a1_2 a1_3 a1_4 a1_5 a2_0 a2_1
              let t10 := f_culetref29_Hits t2.fst t2.snd.fst t2.snd.snd.fst t2.snd.snd.snd.fst t2.snd.snd.snd.snd.fst t2.snd.snd.snd.snd.snd t3.fst t3.snd.fst t3.snd.snd.fst t3.snd.snd.snd.fst t3.snd.snd.snd.snd.fst t3.snd.snd.snd.snd.snd a2_0 a2_1
              bif t9.fst == t10.fst then
                bif t9.snd == t10.snd then
                  let t11 := f_refraction_Critical a2_0 a2_1
                  let t12 := f_culetref29_Critical a2_0 a2_1
                  bif t11.fst == t12.fst && t11.snd.fst == t12.snd.fst then
                    k (t11.snd.snd == t12.snd.snd)
                  else
                    k (false)
                else
                  k (false)
              else
                k (false)
set_option maxRecDepth 100000 in
theorem culetlaw29_RefractionForms.run (f_culetlaw29_awake : (Bool)) (f_culetlaw29_theirs : Int → Int → Int → Int → Int → Int → (Int × Int × Int × Int × Int × Int)) (f_refraction_Hits : Int → Int → Int → Int → Int → Int → Int → Int → Int → Int → Int → Int → Int → Int → (Int × Int)) (f_refraction_Reflect : Int → Int → Int → Int → Int → Int → Int → Int → Int → Int → Int → Int → (Int × Int × Int × Int × Int × Int × Int)) (f_culetref29_Reflect : Int → Int → Int → Int → Int → Int → Int → Int → Int → Int → Int → Int → (Int × Int × Int × Int × Int × Int × Int)) (f_refraction_Radicand : Int → Int → Int → Int → (Int × Int × Int)) (f_culetref29_Radicand : Int → Int → Int → Int → (Int × Int × Int)) (f_refraction_Decide : Int → Int → (Int)) (f_culetref29_Decide : Int → Int → (Int)) (f_culetref29_Hits : Int → Int → Int → Int → Int → Int → Int → Int → Int → Int → Int → Int → Int → Int → (Int × Int)) (f_refraction_Critical : Int → Int → (Int × Int × Int)) (f_culetref29_Critical : Int → Int → (Int × Int × Int)) (a0_0 : Int) (a0_1 : Int) (a0_2 : Int) (a0_3 : Int) (a0_4 : Int) (a0_5 : Int) (a1_0 : Int) (a1_1 : Int) (a1_2 : Int) (a1_3 : Int) (a1_4 : Int) (a1_5 : Int) (a2_0 : Int) (a2_1 : Int) : xfn Try.prog ⟨[(8, culetlaw29_awake.sp f_culetlaw29_awake), (11, culetlaw29_theirs.sp f_culetlaw29_theirs), (12, refraction_Hits.sp f_refraction_Hits), (16, refraction_Reflect.sp f_refraction_Reflect), (17, culetref29_Reflect.sp f_culetref29_Reflect), (18, refraction_Radicand.sp f_refraction_Radicand), (19, culetref29_Radicand.sp f_culetref29_Radicand), (20, refraction_Decide.sp f_refraction_Decide), (21, culetref29_Decide.sp f_culetref29_Decide), (22, culetref29_Hits.sp f_culetref29_Hits), (23, refraction_Critical.sp f_refraction_Critical), (24, culetref29_Critical.sp f_culetref29_Critical)], []⟩ [] 40 Try.f6 [.agg ⟨[.int .i64 a0_0, .int .i64 a0_1, .int .i64 a0_2, .int .i64 a0_3, .int .i64 a0_4, .int .i64 a0_5]⟩, .agg ⟨[.int .i64 a1_0, .int .i64 a1_1, .int .i64 a1_2, .int .i64 a1_3, .int .i64 a1_4, .int .i64 a1_5]⟩, .agg ⟨[.int .i64 a2_0, .int .i64 a2_1]⟩] [] = culetlaw29_RefractionForms.K f_culetlaw29_awake f_culetlaw29_theirs f_refraction_Hits f_refraction_Reflect f_culetref29_Reflect f_refraction_Radicand f_culetref29_Radicand f_refraction_Decide f_culetref29_Decide f_culetref29_Hits f_refraction_Critical f_culetref29_Critical a0_0 a0_1 a0_2 a0_3 a0_4 a0_5 a1_0 a1_1 a1_2 a1_3 a1_4 a1_5 a2_0 a2_1 (fun r => some (.bool r, [])) := by kernel_rfl
def culetlaw29_RefractionForms (a0_0 : Int) (a0_1 : Int) (a0_2 : Int) (a0_3 : Int) (a0_4 : Int) (a0_5 : Int) (a1_0 : Int) (a1_1 : Int) (a1_2 : Int) (a1_3 : Int) (a1_4 : Int) (a1_5 : Int) (a2_0 : Int) (a2_1 : Int) : Bool := culetlaw29_RefractionForms.K culetlaw29_awake culetlaw29_theirs refraction_Hits refraction_Reflect culetref29_Reflect refraction_Radicand culetref29_Radicand refraction_Decide culetref29_Decide culetref29_Hits refraction_Critical culetref29_Critical a0_0 a0_1 a0_2 a0_3 a0_4 a0_5 a1_0 a1_1 a1_2 a1_3 a1_4 a1_5 a2_0 a2_1 id
theorem culetlaw29_RefractionForms.nat {R : Type} (f_culetlaw29_awake : (Bool)) (f_culetlaw29_theirs : Int → Int → Int → Int → Int → Int → (Int × Int × Int × Int × Int × Int)) (f_refraction_Hits : Int → Int → Int → Int → Int → Int → Int → Int → Int → Int → Int → Int → Int → Int → (Int × Int)) (f_refraction_Reflect : Int → Int → Int → Int → Int → Int → Int → Int → Int → Int → Int → Int → (Int × Int × Int × Int × Int × Int × Int)) (f_culetref29_Reflect : Int → Int → Int → Int → Int → Int → Int → Int → Int → Int → Int → Int → (Int × Int × Int × Int × Int × Int × Int)) (f_refraction_Radicand : Int → Int → Int → Int → (Int × Int × Int)) (f_culetref29_Radicand : Int → Int → Int → Int → (Int × Int × Int)) (f_refraction_Decide : Int → Int → (Int)) (f_culetref29_Decide : Int → Int → (Int)) (f_culetref29_Hits : Int → Int → Int → Int → Int → Int → Int → Int → Int → Int → Int → Int → Int → Int → (Int × Int)) (f_refraction_Critical : Int → Int → (Int × Int × Int)) (f_culetref29_Critical : Int → Int → (Int × Int × Int)) (a0_0 : Int) (a0_1 : Int) (a0_2 : Int) (a0_3 : Int) (a0_4 : Int) (a0_5 : Int) (a1_0 : Int) (a1_1 : Int) (a1_2 : Int) (a1_3 : Int) (a1_4 : Int) (a1_5 : Int) (a2_0 : Int) (a2_1 : Int) (k : (Bool) → R) : culetlaw29_RefractionForms.K f_culetlaw29_awake f_culetlaw29_theirs f_refraction_Hits f_refraction_Reflect f_culetref29_Reflect f_refraction_Radicand f_culetref29_Radicand f_refraction_Decide f_culetref29_Decide f_culetref29_Hits f_refraction_Critical f_culetref29_Critical a0_0 a0_1 a0_2 a0_3 a0_4 a0_5 a1_0 a1_1 a1_2 a1_3 a1_4 a1_5 a2_0 a2_1 k = k (culetlaw29_RefractionForms.K f_culetlaw29_awake f_culetlaw29_theirs f_refraction_Hits f_refraction_Reflect f_culetref29_Reflect f_refraction_Radicand f_culetref29_Radicand f_refraction_Decide f_culetref29_Decide f_culetref29_Hits f_refraction_Critical f_culetref29_Critical a0_0 a0_1 a0_2 a0_3 a0_4 a0_5 a1_0 a1_1 a1_2 a1_3 a1_4 a1_5 a2_0 a2_1 id) := by
  simp only [culetlaw29_RefractionForms.K, acond k, id_eq]
theorem RefractionForms.law (a0 a1 a2 a3 a4 a5 b0 b1 b2 b3 b4 b5 r0 r1 : Int) : culetlaw29_RefractionForms a0 a1 a2 a3 a4 a5 b0 b1 b2 b3 b4 b5 r0 r1 = true := by
  simp only [culetlaw29_RefractionForms, culetlaw29_RefractionForms.K, id_eq, awake_true, theirs_eq, refraction_Reflect.eq, culetref29_Reflect.eq, refraction_Radicand.eq, culetref29_Radicand.eq, refraction_Decide.eq, culetref29_Decide.eq, refraction_Hits.eq, culetref29_Hits.eq, refraction_Critical.eq, culetref29_Critical.eq, beq_self_eq_true, bne_self_eq_false, Bool.and_self, Bool.not_true, cond_true, cond_false]
theorem culetlaw29_RefractionForms.calls (a0_0 : Int) (a0_1 : Int) (a0_2 : Int) (a0_3 : Int) (a0_4 : Int) (a0_5 : Int) (a1_0 : Int) (a1_1 : Int) (a1_2 : Int) (a1_3 : Int) (a1_4 : Int) (a1_5 : Int) (a2_0 : Int) (a2_1 : Int) (h : culetlaw29_RefractionForms a0_0 a0_1 a0_2 a0_3 a0_4 a0_5 a1_0 a1_1 a1_2 a1_3 a1_4 a1_5 a2_0 a2_1 = true) (w : World) : Calls Try.prog 6 ⟨[.agg ⟨[.int .i64 a0_0, .int .i64 a0_1, .int .i64 a0_2, .int .i64 a0_3, .int .i64 a0_4, .int .i64 a0_5]⟩, .agg ⟨[.int .i64 a1_0, .int .i64 a1_1, .int .i64 a1_2, .int .i64 a1_3, .int .i64 a1_4, .int .i64 a1_5]⟩, .agg ⟨[.int .i64 a2_0, .int .i64 a2_1]⟩]⟩ w fun e w' => e = .returned (.bool true) ∧ Below w.heap.size w w' := by
  refine calls_run (E := ⟨[(8, culetlaw29_awake.sp culetlaw29_awake), (11, culetlaw29_theirs.sp culetlaw29_theirs), (12, refraction_Hits.sp refraction_Hits), (16, refraction_Reflect.sp refraction_Reflect), (17, culetref29_Reflect.sp culetref29_Reflect), (18, refraction_Radicand.sp refraction_Radicand), (19, culetref29_Radicand.sp culetref29_Radicand), (20, refraction_Decide.sp refraction_Decide), (21, culetref29_Decide.sp culetref29_Decide), (22, culetref29_Hits.sp culetref29_Hits), (23, refraction_Critical.sp refraction_Critical), (24, culetref29_Critical.sp culetref29_Critical)], []⟩) ⟨(specs_cons culetlaw29_awake.ok (specs_cons culetlaw29_theirs.ok (specs_cons refraction_Hits.ok (specs_cons refraction_Reflect.ok (specs_cons culetref29_Reflect.ok (specs_cons refraction_Radicand.ok (specs_cons culetref29_Radicand.ok (specs_cons refraction_Decide.ok (specs_cons culetref29_Decide.ok (specs_cons culetref29_Hits.ok (specs_cons refraction_Critical.ok (specs_cons culetref29_Critical.ok specs_nil)))))))))))), inl_nil, mixed_ok⟩ 40 Try.func6 (by decide) rfl no_loops (vs := [.agg ⟨[.int .i64 a0_0, .int .i64 a0_1, .int .i64 a0_2, .int .i64 a0_3, .int .i64 a0_4, .int .i64 a0_5]⟩, .agg ⟨[.int .i64 a1_0, .int .i64 a1_1, .int .i64 a1_2, .int .i64 a1_3, .int .i64 a1_4, .int .i64 a1_5]⟩, .agg ⟨[.int .i64 a2_0, .int .i64 a2_1]⟩]) (v := .bool true) ?_ (by simp [okV, Nat.blt]) (clo_spec 8 _ rfl) w
  refine (culetlaw29_RefractionForms.run culetlaw29_awake culetlaw29_theirs refraction_Hits refraction_Reflect culetref29_Reflect refraction_Radicand culetref29_Radicand refraction_Decide culetref29_Decide culetref29_Hits refraction_Critical culetref29_Critical a0_0 a0_1 a0_2 a0_3 a0_4 a0_5 a1_0 a1_1 a1_2 a1_3 a1_4 a1_5 a2_0 a2_1).trans ?_
  rw [culetlaw29_RefractionForms.nat]
  have h4 : culetlaw29_RefractionForms.K culetlaw29_awake culetlaw29_theirs refraction_Hits refraction_Reflect culetref29_Reflect refraction_Radicand culetref29_Radicand refraction_Decide culetref29_Decide culetref29_Hits refraction_Critical culetref29_Critical a0_0 a0_1 a0_2 a0_3 a0_4 a0_5 a1_0 a1_1 a1_2 a1_3 a1_4 a1_5 a2_0 a2_1 id = true := h
  rw [h4]

/-! ### culet/culetlaw28.within (63) -/
def culetlaw28_within.K {R : Type} (a0_0 : Int) (a0_1 : Int) (a1 : Int) (a2 : Int) (k : Int × Int → Option R) : Option R :=
  bif IntKind.i64.wrap (IntKind.i64.wrap (a0_1 - a0_0) + 1) != 0 then
    bif IntKind.i64.wrap (IntKind.i64.wrap (a0_1 - a0_0) + 1) != 0 then
      k (if IntKind.i64.wrap (a0_0 + (IntKind.i64.wrap a2).tmod (IntKind.i64.wrap (IntKind.i64.wrap (a0_1 - a0_0) + 1))) < IntKind.i64.wrap (a0_0 + (IntKind.i64.wrap a1).tmod (IntKind.i64.wrap (IntKind.i64.wrap (a0_1 - a0_0) + 1))) then IntKind.i64.wrap (a0_0 + (IntKind.i64.wrap a2).tmod (IntKind.i64.wrap (IntKind.i64.wrap (a0_1 - a0_0) + 1))) else IntKind.i64.wrap (a0_0 + (IntKind.i64.wrap a1).tmod (IntKind.i64.wrap (IntKind.i64.wrap (a0_1 - a0_0) + 1))), if IntKind.i64.wrap (a0_0 + (IntKind.i64.wrap a2).tmod (IntKind.i64.wrap (IntKind.i64.wrap (a0_1 - a0_0) + 1))) > IntKind.i64.wrap (a0_0 + (IntKind.i64.wrap a1).tmod (IntKind.i64.wrap (IntKind.i64.wrap (a0_1 - a0_0) + 1))) then IntKind.i64.wrap (a0_0 + (IntKind.i64.wrap a2).tmod (IntKind.i64.wrap (IntKind.i64.wrap (a0_1 - a0_0) + 1))) else IntKind.i64.wrap (a0_0 + (IntKind.i64.wrap a1).tmod (IntKind.i64.wrap (IntKind.i64.wrap (a0_1 - a0_0) + 1))))
    else
      none
  else
    none
set_option maxRecDepth 100000 in
theorem culetlaw28_within.run (a0_0 : Int) (a0_1 : Int) (a1 : Int) (a2 : Int) : xfn Try.prog ⟨[], []⟩ [] 40 Try.f63 [.agg ⟨[.int .i64 a0_0, .int .i64 a0_1]⟩, .int .u32 a1, .int .u32 a2] [] = culetlaw28_within.K a0_0 a0_1 a1 a2 (fun r => some (.agg ⟨[.int .i64 r.1, .int .i64 r.2]⟩, [])) := by kernel_rfl
def culetlaw28_within.o (a0_0 : Int) (a0_1 : Int) (a1 : Int) (a2 : Int) : Option (Int × Int) := culetlaw28_within.K a0_0 a0_1 a1 a2 some
def culetlaw28_within.pre (a0_0 : Int) (a0_1 : Int) (a1 : Int) (a2 : Int) : Bool := (culetlaw28_within.o a0_0 a0_1 a1 a2).isSome
def culetlaw28_within (a0_0 : Int) (a0_1 : Int) (a1 : Int) (a2 : Int) : Int × Int := (culetlaw28_within.o a0_0 a0_1 a1 a2).getD default
theorem culetlaw28_within.nat {R : Type} (a0_0 : Int) (a0_1 : Int) (a1 : Int) (a2 : Int) (k : Int × Int → Option R) : culetlaw28_within.K a0_0 a0_1 a1 a2 k = (culetlaw28_within.K a0_0 a0_1 a1 a2 some).bind k := by
  simp only [culetlaw28_within.K, bcond, Option.bind_some, Option.bind_none]
theorem culetlaw28_within.in {a b k l : Int} (hv : V a b = true) (hk : 0 ≤ k) (hk' : k ≤ 4294967295) (hl : 0 ≤ l) (hl' : l ≤ 4294967295) : culetlaw28_within.pre a b k l = true ∧ S2 (culetlaw28_within a b k l) (a, b) := by
  have hV := V_iff.1 hv
  have w1 : IntKind.i64.wrap (b - a) = b - a := w64 (by omega) (by omega)
  have w2 : IntKind.i64.wrap (b - a + 1) = b - a + 1 := w64 (by omega) (by omega)
  have w3 : IntKind.i64.wrap k = k := w64 (by omega) (by omega)
  have w4 : IntKind.i64.wrap l = l := w64 (by omega) (by omega)
  have n0 : ((b - a + 1) != 0) = true := by simp; omega
  have m1 := Int.emod_nonneg k (show b - a + 1 ≠ 0 by omega)
  have m2 := Int.emod_lt_of_pos k (show 0 < b - a + 1 by omega)
  have m3 := Int.emod_nonneg l (show b - a + 1 ≠ 0 by omega)
  have m4 := Int.emod_lt_of_pos l (show 0 < b - a + 1 by omega)
  have t1 : k.tmod (b - a + 1) = k % (b - a + 1) := Int.tmod_eq_emod_of_nonneg hk
  have t2 : l.tmod (b - a + 1) = l % (b - a + 1) := Int.tmod_eq_emod_of_nonneg hl
  generalize k % (b - a + 1) = x at *
  generalize l % (b - a + 1) = y at *
  have w5 : IntKind.i64.wrap (a + x) = a + x := w64 (by omega) (by omega)
  have w6 : IntKind.i64.wrap (a + y) = a + y := w64 (by omega) (by omega)
  have ho : culetlaw28_within.o a b k l = some (if a + y < a + x then a + y else a + x, if a + y > a + x then a + y else a + x) := by
    simp only [culetlaw28_within.o, culetlaw28_within.K, w1, w2, w3, w4, n0, t1, t2, w5, w6, cond_true]
  have h2 : culetlaw28_within a b k l = (if a + y < a + x then a + y else a + x, if a + y > a + x then a + y else a + x) := by unfold culetlaw28_within; rw [ho]; rfl
  refine ⟨by unfold culetlaw28_within.pre; rw [ho]; rfl, ?_, hv⟩
  rw [h2, mnE, mxE]
  show In (min _ _) (max _ _) a b
  unfold In
  omega
theorem culetlaw28_within.ok : SOK Try.prog 63 (culetlaw28_within.sp culetlaw28_within culetlaw28_within.pre) := by
  refine sok_of (E := ⟨[], []⟩) ⟨specs_nil, inl_nil, mixed_ok⟩ 40 Try.func63 (by decide) rfl no_loops fun vs bl v bl' h => ?_
  unfold culetlaw28_within.sp at h
  split at h
  · rename_i a0_0 a0_1 a1 a2
    simp only [Option.some.injEq, Prod.mk.injEq] at h
    obtain ⟨hp, rfl, rfl⟩ := h
    have hr := culetlaw28_within.run a0_0 a0_1 a1 a2
    rw [culetlaw28_within.nat] at hr
    obtain ⟨r, h2⟩ := Option.isSome_iff_exists.1 (hp : (culetlaw28_within.o a0_0 a0_1 a1 a2).isSome = true)
    have h3 : culetlaw28_within a0_0 a0_1 a1 a2 = r := by unfold culetlaw28_within; rw [h2]; rfl
    have h4 : culetlaw28_within.K a0_0 a0_1 a1 a2 some = some r := h2
    rw [h4, Option.bind_some] at hr
    rw [h3]
    exact ⟨hr, by simp [okV, Nat.blt], clo_spec 8 _ (by kernel_rfl), told_blk (by kernel_rfl)⟩
  · cases h

/-! ### culet/culetlaw28.Part (27) -/
def culetlaw28_Part.K {R : Type} (f_culetlaw28_within : Int → Int → Int → Int → (Int × Int)) (p_culetlaw28_within : Int → Int → Int → Int → Bool) (a0_0 : Int) (a0_1 : Int) (a0_2 : Int) (a0_3 : Int) (a0_4 : Int) (a0_5 : Int) (a1_0 : Int) (a1_1 : Int) (a1_2 : Int) (a1_3 : Int) (a1_4 : Int) (a1_5 : Int) (k : Int × Int × Int × Int × Int × Int → Option R) : Option R :=
  let t0 := p_culetlaw28_within a0_0 a0_1 a1_0 a1_1
  bif t0 then
    let t1 := p_culetlaw28_within a0_2 a0_3 a1_2 a1_3
    bif t1 then
      let t2 := p_culetlaw28_within a0_4 a0_5 a1_4 a1_5
      bif t2 then
        let t3 := f_culetlaw28_within a0_0 a0_1 a1_0 a1_1
        let t4 := f_culetlaw28_within a0_2 a0_3 a1_2 a1_3
        let t5 := f_culetlaw28_within a0_4 a0_5 a1_4 a1_5
        k (t3.fst, t3.snd, t4.fst, t4.snd, t5.fst, t5.snd)
      else
        none
    else
      none
  else
    none
set_option maxRecDepth 100000 in
theorem culetlaw28_Part.run (f_culetlaw28_within : Int → Int → Int → Int → (Int × Int)) (p_culetlaw28_within : Int → Int → Int → Int → Bool) (a0_0 : Int) (a0_1 : Int) (a0_2 : Int) (a0_3 : Int) (a0_4 : Int) (a0_5 : Int) (a1_0 : Int) (a1_1 : Int) (a1_2 : Int) (a1_3 : Int) (a1_4 : Int) (a1_5 : Int) : xfn Try.prog ⟨[(63, culetlaw28_within.sp f_culetlaw28_within p_culetlaw28_within)], []⟩ [] 40 Try.f27 [.agg ⟨[.int .i64 a0_0, .int .i64 a0_1, .int .i64 a0_2, .int .i64 a0_3, .int .i64 a0_4, .int .i64 a0_5]⟩, .agg ⟨[.int .u32 a1_0, .int .u32 a1_1, .int .u32 a1_2, .int .u32 a1_3, .int .u32 a1_4, .int .u32 a1_5]⟩] [] = culetlaw28_Part.K f_culetlaw28_within p_culetlaw28_within a0_0 a0_1 a0_2 a0_3 a0_4 a0_5 a1_0 a1_1 a1_2 a1_3 a1_4 a1_5 (fun r => some (.agg ⟨[.int .i64 r.1, .int .i64 r.2.1, .int .i64 r.2.2.1, .int .i64 r.2.2.2.1, .int .i64 r.2.2.2.2.1, .int .i64 r.2.2.2.2.2]⟩, [])) := by kernel_rfl
def culetlaw28_Part.o (a0_0 : Int) (a0_1 : Int) (a0_2 : Int) (a0_3 : Int) (a0_4 : Int) (a0_5 : Int) (a1_0 : Int) (a1_1 : Int) (a1_2 : Int) (a1_3 : Int) (a1_4 : Int) (a1_5 : Int) : Option (Int × Int × Int × Int × Int × Int) := culetlaw28_Part.K culetlaw28_within culetlaw28_within.pre a0_0 a0_1 a0_2 a0_3 a0_4 a0_5 a1_0 a1_1 a1_2 a1_3 a1_4 a1_5 some
def culetlaw28_Part.pre (a0_0 : Int) (a0_1 : Int) (a0_2 : Int) (a0_3 : Int) (a0_4 : Int) (a0_5 : Int) (a1_0 : Int) (a1_1 : Int) (a1_2 : Int) (a1_3 : Int) (a1_4 : Int) (a1_5 : Int) : Bool := (culetlaw28_Part.o a0_0 a0_1 a0_2 a0_3 a0_4 a0_5 a1_0 a1_1 a1_2 a1_3 a1_4 a1_5).isSome
def culetlaw28_Part (a0_0 : Int) (a0_1 : Int) (a0_2 : Int) (a0_3 : Int) (a0_4 : Int) (a0_5 : Int) (a1_0 : Int) (a1_1 : Int) (a1_2 : Int) (a1_3 : Int) (a1_4 : Int) (a1_5 : Int) : Int × Int × Int × Int × Int × Int := (culetlaw28_Part.o a0_0 a0_1 a0_2 a0_3 a0_4 a0_5 a1_0 a1_1 a1_2 a1_3 a1_4 a1_5).getD default
theorem culetlaw28_Part.nat {R : Type} (f_culetlaw28_within : Int → Int → Int → Int → (Int × Int)) (p_culetlaw28_within : Int → Int → Int → Int → Bool) (a0_0 : Int) (a0_1 : Int) (a0_2 : Int) (a0_3 : Int) (a0_4 : Int) (a0_5 : Int) (a1_0 : Int) (a1_1 : Int) (a1_2 : Int) (a1_3 : Int) (a1_4 : Int) (a1_5 : Int) (k : Int × Int × Int × Int × Int × Int → Option R) : culetlaw28_Part.K f_culetlaw28_within p_culetlaw28_within a0_0 a0_1 a0_2 a0_3 a0_4 a0_5 a1_0 a1_1 a1_2 a1_3 a1_4 a1_5 k = (culetlaw28_Part.K f_culetlaw28_within p_culetlaw28_within a0_0 a0_1 a0_2 a0_3 a0_4 a0_5 a1_0 a1_1 a1_2 a1_3 a1_4 a1_5 some).bind k := by
  simp only [culetlaw28_Part.K, bcond, Option.bind_some, Option.bind_none]
def bxv (r : Int × Int × Int × Int × Int × Int) : Bx := ((r.1, r.2.1), (r.2.2.1, r.2.2.2.1), (r.2.2.2.2.1, r.2.2.2.2.2))
theorem culetlaw28_Part.in {a0 a1 a2 a3 a4 a5 k0 k1 k2 k3 k4 k5 : Int} (hv : VB ((a0, a1), (a2, a3), (a4, a5)) = true) (h0 : 0 ≤ k0 ∧ k0 ≤ 4294967295) (h1 : 0 ≤ k1 ∧ k1 ≤ 4294967295) (h2 : 0 ≤ k2 ∧ k2 ≤ 4294967295) (h3 : 0 ≤ k3 ∧ k3 ≤ 4294967295) (h4 : 0 ≤ k4 ∧ k4 ≤ 4294967295) (h5 : 0 ≤ k5 ∧ k5 ≤ 4294967295) : culetlaw28_Part.pre a0 a1 a2 a3 a4 a5 k0 k1 k2 k3 k4 k5 = true ∧ SB (bxv (culetlaw28_Part a0 a1 a2 a3 a4 a5 k0 k1 k2 k3 k4 k5)) ((a0, a1), (a2, a3), (a4, a5)) := by
  rw [VB_iff] at hv
  have i0 := culetlaw28_within.in hv.1 h0.1 h0.2 h1.1 h1.2
  have i1 := culetlaw28_within.in hv.2.1 h2.1 h2.2 h3.1 h3.2
  have i2 := culetlaw28_within.in hv.2.2 h4.1 h4.2 h5.1 h5.2
  have ho : culetlaw28_Part.o a0 a1 a2 a3 a4 a5 k0 k1 k2 k3 k4 k5 = some ((culetlaw28_within a0 a1 k0 k1).1, (culetlaw28_within a0 a1 k0 k1).2, (culetlaw28_within a2 a3 k2 k3).1, (culetlaw28_within a2 a3 k2 k3).2, (culetlaw28_within a4 a5 k4 k5).1, (culetlaw28_within a4 a5 k4 k5).2) := by
    simp only [culetlaw28_Part.o, culetlaw28_Part.K, i0.1, i1.1, i2.1, cond_true]
  refine ⟨by unfold culetlaw28_Part.pre; rw [ho]; rfl, ?_⟩
  unfold culetlaw28_Part
  rw [ho]
  exact ⟨i0.2, i1.2, i2.2⟩
theorem culetlaw28_Part.ok : SOK Try.prog 27 (culetlaw28_Part.sp culetlaw28_Part culetlaw28_Part.pre) := by
  refine sok_of (E := ⟨[(63, culetlaw28_within.sp culetlaw28_within culetlaw28_within.pre)], []⟩) ⟨(specs_cons culetlaw28_within.ok specs_nil), inl_nil, mixed_ok⟩ 40 Try.func27 (by decide) rfl no_loops fun vs bl v bl' h => ?_
  unfold culetlaw28_Part.sp at h
  split at h
  · rename_i a0_0 a0_1 a0_2 a0_3 a0_4 a0_5 a1_0 a1_1 a1_2 a1_3 a1_4 a1_5
    simp only [Option.some.injEq, Prod.mk.injEq] at h
    obtain ⟨hp, rfl, rfl⟩ := h
    have hr := culetlaw28_Part.run culetlaw28_within culetlaw28_within.pre a0_0 a0_1 a0_2 a0_3 a0_4 a0_5 a1_0 a1_1 a1_2 a1_3 a1_4 a1_5
    rw [culetlaw28_Part.nat] at hr
    obtain ⟨r, h2⟩ := Option.isSome_iff_exists.1 (hp : (culetlaw28_Part.o a0_0 a0_1 a0_2 a0_3 a0_4 a0_5 a1_0 a1_1 a1_2 a1_3 a1_4 a1_5).isSome = true)
    have h3 : culetlaw28_Part a0_0 a0_1 a0_2 a0_3 a0_4 a0_5 a1_0 a1_1 a1_2 a1_3 a1_4 a1_5 = r := by unfold culetlaw28_Part; rw [h2]; rfl
    have h4 : culetlaw28_Part.K culetlaw28_within culetlaw28_within.pre a0_0 a0_1 a0_2 a0_3 a0_4 a0_5 a1_0 a1_1 a1_2 a1_3 a1_4 a1_5 some = some r := h2
    rw [h4, Option.bind_some] at hr
    rw [h3]
    exact ⟨hr, by simp [okV, Nat.blt], clo_spec 8 _ (by kernel_rfl), told_blk (by kernel_rfl)⟩
  · cases h

/-! ### culet/culetref27.Inside (28) -/
def culetref27_Inside.K {R : Type} (f_culetref27_both : Int → Int → Int → Int → (Bool)) (a0_0 : Int) (a0_1 : Int) (a1_0 : Int) (a1_1 : Int) (k : (Bool) → R) : R :=
  let t0 := f_culetref27_both a0_0 a0_1 a1_0 a1_1
  bif t0 then
    bif decide (a1_0 ≤ a0_0) then
      k (decide (a0_1 ≤ a1_1))
    else
      k (false)
  else
    k (false)
set_option maxRecDepth 100000 in
theorem culetref27_Inside.run (f_culetref27_both : Int → Int → Int → Int → (Bool)) (a0_0 : Int) (a0_1 : Int) (a1_0 : Int) (a1_1 : Int) : xfn Try.prog ⟨[(64, culetref27_both.sp f_culetref27_both)], []⟩ [] 40 Try.f28 [.agg ⟨[.int .i64 a0_0, .int .i64 a0_1]⟩, .agg ⟨[.int .i64 a1_0, .int .i64 a1_1]⟩] [] = culetref27_Inside.K f_culetref27_both a0_0 a0_1 a1_0 a1_1 (fun r => some (.bool r, [])) := by kernel_rfl
def culetref27_Inside (a0_0 : Int) (a0_1 : Int) (a1_0 : Int) (a1_1 : Int) : Bool := culetref27_Inside.K culetref27_both a0_0 a0_1 a1_0 a1_1 id
theorem culetref27_Inside.nat {R : Type} (f_culetref27_both : Int → Int → Int → Int → (Bool)) (a0_0 : Int) (a0_1 : Int) (a1_0 : Int) (a1_1 : Int) (k : (Bool) → R) : culetref27_Inside.K f_culetref27_both a0_0 a0_1 a1_0 a1_1 k = k (culetref27_Inside.K f_culetref27_both a0_0 a0_1 a1_0 a1_1 id) := by
  simp only [culetref27_Inside.K, acond k, id_eq]
theorem culetref27_Inside.of {a b c d : Int} (h : inb a b c d = true) : culetref27_Inside a b c d = true := by
  simp only [inb, Bool.and_eq_true, decide_eq_true_eq] at h
  simp only [culetref27_Inside, culetref27_Inside.K, id_eq, culetref27_both.eq, h, Bool.and_self, cond_true, decide_true]
theorem S2.inb {x y X Y : Int} (h : S2 (x, y) (X, Y)) : inb x y X Y = true := by
  have := h.1
  unfold In at this
  exact inb_of h.v h.2 this.1 this.2.2
theorem culetref27_Inside.ok : SOK Try.prog 28 (culetref27_Inside.sp culetref27_Inside) := by
  refine sok_of (E := ⟨[(64, culetref27_both.sp culetref27_both)], []⟩) ⟨(specs_cons culetref27_both.ok specs_nil), inl_nil, mixed_ok⟩ 40 Try.func28 (by decide) rfl no_loops fun vs bl v bl' h => ?_
  unfold culetref27_Inside.sp at h
  split at h
  · rename_i a0_0 a0_1 a1_0 a1_1
    simp only [Option.some.injEq, Prod.mk.injEq, true_and] at h
    obtain ⟨rfl, rfl⟩ := h
    refine ⟨?_, by simp [okV, Nat.blt], clo_spec 8 _ (by kernel_rfl), told_blk (by kernel_rfl)⟩
    refine (culetref27_Inside.run culetref27_both a0_0 a0_1 a1_0 a1_1).trans ?_
    refine (culetref27_Inside.nat culetref27_both a0_0 a0_1 a1_0 a1_1 _).trans ?_
    kernel_rfl
  · cases h

/-! ### culet/culetlaw29.RefractionInclusion (7) -/
def culetlaw29_RefractionInclusion.K {R : Type} (f_culetlaw29_awake : (Bool)) (f_refraction_Refract : Int → Int → Int → Int → Int → Int → Int → Int → Int → Int → Int → Int → Int → Int → (Int × Int × Int × Int × Int × Int × Int × Int × Int × Int × Int)) (f_culetlaw29_theirs : Int → Int → Int → Int → Int → Int → (Int × Int × Int × Int × Int × Int)) (f_refraction_Hits : Int → Int → Int → Int → Int → Int → Int → Int → Int → Int → Int → Int → Int → Int → (Int × Int)) (f_direction_Inside : Int → Int → Int → Int → Int → Int → Int → Int → Int → Int → Int → Int → (Bool)) (f_refraction_Reflect : Int → Int → Int → Int → Int → Int → Int → Int → Int → Int → Int → Int → (Int × Int × Int × Int × Int × Int × Int)) (f_culetref28_Valid : Int → Int → Int → Int → Int → Int → (Bool)) (f_culetref27_Valid : Int → Int → (Bool)) (f_culetlaw28_Part : Int → Int → Int → Int → Int → Int → Int → Int → Int → Int → Int → Int → (Int × Int × Int × Int × Int × Int)) (p_culetlaw28_Part : Int → Int → Int → Int → Int → Int → Int → Int → Int → Int → Int → Int → Bool) (f_culetref27_Inside : Int → Int → Int → Int → (Bool)) (a0_0 : Int) (a0_1 : Int) (a0_2 : Int) (a0_3 : Int) (a0_4 : Int) (a0_5 : Int) (a1_0 : Int) (a1_1 : Int) (a1_2 : Int) (a1_3 : Int) (a1_4 : Int) (a1_5 : Int) (a2_0 : Int) (a2_1 : Int) (a2_2 : Int) (a2_3 : Int) (a2_4 : Int) (a2_5 : Int) (a2_6 : Int) (a2_7 : Int) (k : (Bool) → Option R) : Option R :=
  bif !f_culetlaw29_awake then
    k (false)
  else
    let t0 := f_culetlaw29_theirs a0_0 a0_1 a0_2 a0_3 a0_4 a0_5
    let t1 := f_culetref28_Valid t0.fst t0.snd.fst t0.snd.snd.fst t0.snd.snd.snd.fst t0.snd.snd.snd.snd.fst t0.snd.snd.snd.snd.snd
    bif !t1 then
      k (true)
    else
      let t2 := f_culetlaw29_theirs a1_0 a1_1 a1_2 a1_3 a1_4 a1_5
      let t3 := f_culetref28_Valid t2.fst t2.snd.fst t2.snd.snd.fst t2.snd.snd.snd.fst t2.snd.snd.snd.snd.fst t2.snd.snd.snd.snd.snd
      bif !t3 then
        k (true)
      else
        let t4 := f_culetref27_Valid a2_0 a2_1
        bif !t4 then
          k (true)
        else
          let t5 := p_culetlaw28_Part a0_0 a0_1 a0_2 a0_3 a0_4 a0_5 a2_2 a2_3 a2_4 a2_5 a2_6 a2_7
          bif t5 then
            let t6 := p_culetlaw28_Part a1_0 a1_1 a1_2 a1_3 a1_4 a1_5 a2_2 a2_3 a2_4 a2_5 a2_6 a2_7
            bif t6 then
              let t7 := f_refraction_Reflect a0_0 a0_1 a0_2 a0_3 a0_4 a0_5 a1_0 a1_1 a1_2 a1_3 a1_4 a1_5
              bif t7.snd.snd.snd.snd.snd.snd == 0 then
                let t8 := f_culetlaw28_Part a0_0 a0_1 a0_2 a0_3 a0_4 a0_5 a2_2 a2_3 a2_4 a2_5 a2_6 a2_7
                let t9 := f_culetlaw28_Part a1_0 a1_1 a1_2 a1_3 a1_4 a1_5 a2_2 a2_3 a2_4 a2_5 a2_6 a2_7
                let t10 := f_refraction_Reflect t8.fst t8.snd.fst t8.snd.snd.fst t8.snd.snd.snd.fst t8.snd.snd.snd.snd.fst t8.snd.snd.snd.snd.snd t9.fst t9.snd.fst t9.snd.snd.fst t9.snd.snd.snd.fst t9.snd.snd.snd.snd.fst t9.snd.snd.snd.snd.snd
                bif t10.snd.snd.snd.snd.snd.snd != 0 then
                  k (false)
                else
                  let t11 := f_direction_Inside t10.fst t10.snd.fst t10.snd.snd.fst t10.snd.snd.snd.fst t10.snd.snd.snd.snd.fst t10.snd.snd.snd.snd.snd.fst t7.fst t7.snd.fst t7.snd.snd.fst t7.snd.snd.snd.fst t7.snd.snd.snd.snd.fst t7.snd.snd.snd.snd.snd.fst
                  bif !t11 then
                    k (false)
                  else
                    let t12 := f_refraction_Hits a0_0 a0_1 a0_2 a0_3 a0_4 a0_5 a1_0 a1_1 a1_2 a1_3 a1_4 a1_5 a2_0 a2_1
                    bif t12.snd == 0 then
                      let t13 := f_refraction_Hits t8.fst t8.snd.fst t8.snd.snd.fst t8.snd.snd.snd.fst t8.snd.snd.snd.snd.fst t8.snd.snd.snd.snd.snd t9.fst t9.snd.fst t9.snd.snd.fst t9.snd.snd.snd.fst t9.snd.snd.snd.snd.fst t9.snd.snd.snd.snd.snd a2_0 a2_1
                      bif t13.snd != 0 then
                        k (false)
                      else
                        bif t12.fst != t13.fst then
                          bif t12.fst != 3 then
                            k (false)
                          else
                            let t14 := f_refraction_Refract a0_0 a0_1 a0_2 a0_3 a0_4 a0_5 a1_0 a1_1 a1_2 a1_3 a1_4 a1_5 a2_0 a2_1
                            bif t14.snd.snd.snd.snd.snd.snd.snd.snd.snd.snd != 0 then
                              k (true)
                            else
                              let t15 := f_refraction_Refract t8.fst t8.snd.fst t8.snd.snd.fst t8.snd.snd.snd.fst t8.snd.snd.snd.snd.fst t8.snd.snd.snd.snd.snd t9.fst t9.snd.fst t9.snd.snd.fst t9.snd.snd.snd.fst t9.snd.snd.snd.snd.fst t9.snd.snd.snd.snd.snd a2_0 a2_1
                              bif t15.snd.snd.snd.snd.snd.snd.snd.snd.snd.snd == 0 then
                                let t16 := f_direction_Inside t15.fst t15.snd.fst t15.snd.snd.fst t15.snd.snd.snd.fst t15.snd.snd.snd.snd.fst t15.snd.snd.snd.snd.snd.fst t14.fst t14.snd.fst t14.snd.snd.fst t14.snd.snd.snd.fst t14.snd.snd.snd.snd.fst t14.snd.snd.snd.snd.snd.fst
                                bif t16 then
                                  let t17 := f_culetref27_Inside t15.snd.snd.snd.snd.snd.snd.fst t15.snd.snd.snd.snd.snd.snd.snd.fst t14.snd.snd.snd.snd.snd.snd.fst t14.snd.snd.snd.snd.snd.snd.snd.fst
                                  bif t17 then
                                    let t18 := f_culetref27_Inside t15.snd.snd.snd.snd.snd.snd.snd.snd.fst t15.snd.snd.snd.snd.snd.snd.snd.snd.snd.fst t14.snd.snd.snd.snd.snd.snd.snd.snd.fst t14.snd.snd.snd.snd.snd.snd.snd.snd.snd.fst
                                    k (t18)
                                  else
                                    k (false)
                                else
                                  k (false)
                              else
                                k (false)
                        else
                          let t19 := f_refraction_Refract a0_0 a0_1 a0_2 a0_3 a0_4 a0_5 a1_0 a1_1 a1_2 a1_3 a1_4 a1_5 a2_0 a2_1
                          bif t19.snd.snd.snd.snd.snd.snd.snd.snd.snd.snd != 0 then
                            k (true)
                          else
                            let t20 := f_refraction_Refract t8.fst t8.snd.fst t8.snd.snd.fst t8.snd.snd.snd.fst t8.snd.snd.snd.snd.fst t8.snd.snd.snd.snd.snd t9.fst t9.snd.fst t9.snd.snd.fst t9.snd.snd.snd.fst t9.snd.snd.snd.snd.fst t9.snd.snd.snd.snd.snd a2_0 a2_1
                            bif t20.snd.snd.snd.snd.snd.snd.snd.snd.snd.snd == 0 then
                              let t21 := f_direction_Inside t20.fst t20.snd.fst t20.snd.snd.fst t20.snd.snd.snd.fst t20.snd.snd.snd.snd.fst t20.snd.snd.snd.snd.snd.fst t19.fst t19.snd.fst t19.snd.snd.fst t19.snd.snd.snd.fst t19.snd.snd.snd.snd.fst t19.snd.snd.snd.snd.snd.fst
                              bif t21 then
                                let t22 := f_culetref27_Inside t20.snd.snd.snd.snd.snd.snd.fst t20.snd.snd.snd.snd.snd.snd.snd.fst t19.snd.snd.snd.snd.snd.snd.fst t19.snd.snd.snd.snd.snd.snd.snd.fst
                                bif t22 then
                                  let t23 := f_culetref27_Inside t20.snd.snd.snd.snd.snd.snd.snd.snd.fst t20.snd.snd.snd.snd.snd.snd.snd.snd.snd.fst t19.snd.snd.snd.snd.snd.snd.snd.snd.fst t19.snd.snd.snd.snd.snd.snd.snd.snd.snd.fst
                                  k (t23)
                                else
                                  k (false)
                              else
                                k (false)
                            else
                              k (false)
                    else
                      let t24 := f_refraction_Refract a0_0 a0_1 a0_2 a0_3 a0_4 a0_5 a1_0 a1_1 a1_2 a1_3 a1_4 a1_5 a2_0 a2_1
                      bif t24.snd.snd.snd.snd.snd.snd.snd.snd.snd.snd != 0 then
                        k (true)
                      else
                        let t25 := f_refraction_Refract t8.fst t8.snd.fst t8.snd.snd.fst t8.snd.snd.snd.fst t8.snd.snd.snd.snd.fst t8.snd.snd.snd.snd.snd t9.fst t9.snd.fst t9.snd.snd.fst t9.snd.snd.snd.fst t9.snd.snd.snd.snd.fst t9.snd.snd.snd.snd.snd a2_0 a2_1
                        bif t25.snd.snd.snd.snd.snd.snd.snd.snd.snd.snd == 0 then
                          let t26 := f_direction_Inside t25.fst t25.snd.fst t25.snd.snd.fst t25.snd.snd.snd.fst t25.snd.snd.snd.snd.fst t25.snd.snd.snd.snd.snd.fst t24.fst t24.snd.fst t24.snd.snd.fst t24.snd.snd.snd.fst t24.snd.snd.snd.snd.fst t24.snd.snd.snd.snd.snd.fst
                          bif t26 then
                            let t27 := f_culetref27_Inside t25.snd.snd.snd.snd.snd.snd.fst t25.snd.snd.snd.snd.snd.snd.snd.fst t24.snd.snd.snd.snd.snd.snd.fst t24.snd.snd.snd.snd.snd.snd.snd.fst
                            bif t27 then
                              let t28 := f_culetref27_Inside t25.snd.snd.snd.snd.snd.snd.snd.snd.fst t25.snd.snd.snd.snd.snd.snd.snd.snd.snd.fst t24.snd.snd.snd.snd.snd.snd.snd.snd.fst t24.snd.snd.snd.snd.snd.snd.snd.snd.snd.fst
                              k (t28)
                            else
                              k (false)
                          else
                            k (false)
                        else
                          k (false)
              else
                let t29 := f_refraction_Hits a0_0 a0_1 a0_2 a0_3 a0_4 a0_5 a1_0 a1_1 a1_2 a1_3 a1_4 a1_5 a2_0 a2_1
                bif t29.snd == 0 then
                  let t30 := f_culetlaw28_Part a0_0 a0_1 a0_2 a0_3 a0_4 a0_5 a2_2 a2_3 a2_4 a2_5 a2_6 a2_7
                  let t31 := f_culetlaw28_Part a1_0 a1_1 a1_2 a1_3 a1_4 a1_5 a2_2 a2_3 a2_4 a2_5 a2_6 a2_7
                  let t32 := f_refraction_Hits t30.fst t30.snd.fst t30.snd.snd.fst t30.snd.snd.snd.fst t30.snd.snd.snd.snd.fst t30.snd.snd.snd.snd.snd t31.fst t31.snd.fst t31.snd.snd.fst t31.snd.snd.snd.fst t31.snd.snd.snd.snd.fst t31.snd.snd.snd.snd.snd a2_0 a2_1
                  bif t32.snd != 0 then
                    k (false)
                  else
                    bif t29.fst != t32.fst then
                      bif t29.fst != 3 then
                        k (false)
                      else
                        let t33 := f_refraction_Refract a0_0 a0_1 a0_2 a0_3 a0_4 a0_5 a1_0 a1_1 a1_2 a1_3 a1_4 a1_5 a2_0 a2_1
                        bif t33.snd.snd.snd.snd.snd.snd.snd.snd.snd.snd != 0 then
                          k (true)
                        else
                          let t34 := f_refraction_Refract t30.fst t30.snd.fst t30.snd.snd.fst t30.snd.snd.snd.fst t30.snd.snd.snd.snd.fst t30.snd.snd.snd.snd.snd t31.fst t31.snd.fst t31.snd.snd.fst t31.snd.snd.snd.fst t31.snd.snd.snd.snd.fst t31.snd.snd.snd.snd.snd a2_0 a2_1
                          bif t34.snd.snd.snd.snd.snd.snd.snd.snd.snd.snd == 0 then
                            let t35 := f_direction_Inside t34.fst t34.snd.fst t34.snd.snd.fst t34.snd.snd.snd.fst t34.snd.snd.snd.snd.fst t34.snd.snd.snd.snd.snd.fst t33.fst t33.snd.fst t33.snd.snd.fst t33.snd.snd.snd.fst t33.snd.snd.snd.snd.fst t33.snd.snd.snd.snd.snd.fst
                            bif t35 then
                              let t36 := f_culetref27_Inside t34.snd.snd.snd.snd.snd.snd.fst t34.snd.snd.snd.snd.snd.snd.snd.fst t33.snd.snd.snd.snd.snd.snd.fst t33.snd.snd.snd.snd.snd.snd.snd.fst
                              bif t36 then
                                let t37 := f_culetref27_Inside t34.snd.snd.snd.snd.snd.snd.snd.snd.fst t34.snd.snd.snd.snd.snd.snd.snd.snd.snd.fst t33.snd.snd.snd.snd.snd.snd.snd.snd.fst t33.snd.snd.snd.snd.snd.snd.snd.snd.snd.fst
                                k (t37)
                              else
                                k (false)
                            else
                              k (false)
                          else
                            k (false)
                    else
                      let t38 := f_refraction_Refract a0_0 a0_1 a0_2 a0_3 a0_4 a0_5 a1_0 a1_1 a1_2 a1_3 a1_4 a1_5 a2_0 a2_1
                      bif t38.snd.snd.snd.snd.snd.snd.snd.snd.snd.snd != 0 then
                        k (true)
                      else
                        let t39 := f_refraction_Refract t30.fst t30.snd.fst t30.snd.snd.fst t30.snd.snd.snd.fst t30.snd.snd.snd.snd.fst t30.snd.snd.snd.snd.snd t31.fst t31.snd.fst t31.snd.snd.fst t31.snd.snd.snd.fst t31.snd.snd.snd.snd.fst t31.snd.snd.snd.snd.snd a2_0 a2_1
                        bif t39.snd.snd.snd.snd.snd.snd.snd.snd.snd.snd == 0 then
                          let t40 := f_direction_Inside t39.fst t39.snd.fst t39.snd.snd.fst t39.snd.snd.snd.fst t39.snd.snd.snd.snd.fst t39.snd.snd.snd.snd.snd.fst t38.fst t38.snd.fst t38.snd.snd.fst t38.snd.snd.snd.fst t38.snd.snd.snd.snd.fst t38.snd.snd.snd.snd.snd.fst
                          bif t40 then
                            let t41 := f_culetref27_Inside t39.snd.snd.snd.snd.snd.snd.fst t39.snd.snd.snd.snd.snd.snd.snd.fst t38.snd.snd.snd.snd.snd.snd.fst t38.snd.snd.snd.snd.snd.snd.snd.fst
                            bif t41 then
                              let t42 := f_culetref27_Inside t39.snd.snd.snd.snd.snd.snd.snd.snd.fst t39.snd.snd.snd.snd.snd.snd.snd.snd.snd.fst t38.snd.snd.snd.snd.snd.snd.snd.snd.fst t38.snd.snd.snd.snd.snd.snd.snd.snd.snd.fst
                              k (t42)
                            else
                              k (false)
                          else
                            k (false)
                        else
                          k (false)
                else
                  let t43 := f_refraction_Refract a0_0 a0_1 a0_2 a0_3 a0_4 a0_5 a1_0 a1_1 a1_2 a1_3 a1_4 a1_5 a2_0 a2_1
                  bif t43.snd.snd.snd.snd.snd.snd.snd.snd.snd.snd != 0 then
                    k (true)
                  else
                    let t44 := f_culetlaw28_Part a0_0 a0_1 a0_2 a0_3 a0_4 a0_5 a2_2 a2_3 a2_4 a2_5 a2_6 a2_7
                    let t45 := f_culetlaw28_Part a1_0 a1_1 a1_2 a1_3 a1_4 a1_5 a2_2 a2_3 a2_4 a2_5 a2_6 a2_7
                    let t46 := f_refraction_Refract t44.fst t44.snd.fst t44.snd.snd.fst t44.snd.snd.snd.fst t44.snd.snd.snd.snd.fst t44.snd.snd.snd.snd.snd t45.fst t45.snd.fst t45.snd.snd.fst t45.snd.snd.snd.fst t45.snd.snd.snd.snd.fst t45.snd.snd.snd.snd.snd a2_0 a2_1
                    bif t46.snd.snd.snd.snd.snd.snd.snd.snd.snd.snd == 0 then
                      let t47 := f_direction_Inside t46.fst t46.snd.fst t46.snd.snd.fst t46.snd.snd.snd.fst t46.snd.snd.snd.snd.fst t46.snd.snd.snd.snd.snd.fst t43.fst t43.snd.fst t43.snd.snd.fst t43.snd.snd.snd.fst t43.snd.snd.snd.snd.fst t43.snd.snd.snd.snd.snd.fst
                      bif t47 then
                        let t48 := f_culetref27_Inside t46.snd.snd.snd.snd.snd.snd.fst t46.snd.snd.snd.snd.snd.snd.snd.fst t43.snd.snd.snd.snd.snd.snd.fst t43.snd.snd.snd.snd.snd.snd.snd.fst
                        bif t48 then
                          let t49 := f_culetref27_Inside t46.snd.snd.snd.snd.snd.snd.snd.snd.fst t46.snd.snd.snd.snd.snd.snd.snd.snd.snd.fst t43.snd.snd.snd.snd.snd.snd.snd.snd.fst t43.snd.snd.snd.snd.snd.snd.snd.snd.snd.fst
                          k (t49)
                        else
                          k (false)
                      else
                        k (false)
                    else
                      k (false)
            else
              none
          else
            none
set_option maxRecDepth 100000 in
theorem culetlaw29_RefractionInclusion.run (f_culetlaw29_awake : (Bool)) (f_refraction_Refract : Int → Int → Int → Int → Int → Int → Int → Int → Int → Int → Int → Int → Int → Int → (Int × Int × Int × Int × Int × Int × Int × Int × Int × Int × Int)) (f_culetlaw29_theirs : Int → Int → Int → Int → Int → Int → (Int × Int × Int × Int × Int × Int)) (f_refraction_Hits : Int → Int → Int → Int → Int → Int → Int → Int → Int → Int → Int → Int → Int → Int → (Int × Int)) (f_direction_Inside : Int → Int → Int → Int → Int → Int → Int → Int → Int → Int → Int → Int → (Bool)) (f_refraction_Reflect : Int → Int → Int → Int → Int → Int → Int → Int → Int → Int → Int → Int → (Int × Int × Int × Int × Int × Int × Int)) (f_culetref28_Valid : Int → Int → Int → Int → Int → Int → (Bool)) (f_culetref27_Valid : Int → Int → (Bool)) (f_culetlaw28_Part : Int → Int → Int → Int → Int → Int → Int → Int → Int → Int → Int → Int → (Int × Int × Int × Int × Int × Int)) (p_culetlaw28_Part : Int → Int → Int → Int → Int → Int → Int → Int → Int → Int → Int → Int → Bool) (f_culetref27_Inside : Int → Int → Int → Int → (Bool)) (a0_0 : Int) (a0_1 : Int) (a0_2 : Int) (a0_3 : Int) (a0_4 : Int) (a0_5 : Int) (a1_0 : Int) (a1_1 : Int) (a1_2 : Int) (a1_3 : Int) (a1_4 : Int) (a1_5 : Int) (a2_0 : Int) (a2_1 : Int) (a2_2 : Int) (a2_3 : Int) (a2_4 : Int) (a2_5 : Int) (a2_6 : Int) (a2_7 : Int) : xfn Try.prog ⟨[(8, culetlaw29_awake.sp f_culetlaw29_awake), (9, refraction_Refract.sp f_refraction_Refract), (11, culetlaw29_theirs.sp f_culetlaw29_theirs), (12, refraction_Hits.sp f_refraction_Hits), (14, direction_Inside.sp f_direction_Inside), (16, refraction_Reflect.sp f_refraction_Reflect), (25, culetref28_Valid.sp f_culetref28_Valid), (26, culetref27_Valid.sp f_culetref27_Valid), (27, culetlaw28_Part.sp f_culetlaw28_Part p_culetlaw28_Part), (28, culetref27_Inside.sp f_culetref27_Inside)], []⟩ [] 40 Try.f7 [.agg ⟨[.int .i64 a0_0, .int .i64 a0_1, .int .i64 a0_2, .int .i64 a0_3, .int .i64 a0_4, .int .i64 a0_5]⟩, .agg ⟨[.int .i64 a1_0, .int .i64 a1_1, .int .i64 a1_2, .int .i64 a1_3, .int .i64 a1_4, .int .i64 a1_5]⟩, .agg ⟨[.int .i64 a2_0, .int .i64 a2_1, .int .u32 a2_2, .int .u32 a2_3, .int .u32 a2_4, .int .u32 a2_5, .int .u32 a2_6, .int .u32 a2_7]⟩] [] = culetlaw29_RefractionInclusion.K f_culetlaw29_awake f_refraction_Refract f_culetlaw29_theirs f_refraction_Hits f_direction_Inside f_refraction_Reflect f_culetref28_Valid f_culetref27_Valid f_culetlaw28_Part p_culetlaw28_Part f_culetref27_Inside a0_0 a0_1 a0_2 a0_3 a0_4 a0_5 a1_0 a1_1 a1_2 a1_3 a1_4 a1_5 a2_0 a2_1 a2_2 a2_3 a2_4 a2_5 a2_6 a2_7 (fun r => some (.bool r, [])) := by kernel_rfl
def culetlaw29_RefractionInclusion.o (a0_0 : Int) (a0_1 : Int) (a0_2 : Int) (a0_3 : Int) (a0_4 : Int) (a0_5 : Int) (a1_0 : Int) (a1_1 : Int) (a1_2 : Int) (a1_3 : Int) (a1_4 : Int) (a1_5 : Int) (a2_0 : Int) (a2_1 : Int) (a2_2 : Int) (a2_3 : Int) (a2_4 : Int) (a2_5 : Int) (a2_6 : Int) (a2_7 : Int) : Option (Bool) := culetlaw29_RefractionInclusion.K culetlaw29_awake refraction_Refract culetlaw29_theirs refraction_Hits direction_Inside refraction_Reflect culetref28_Valid culetref27_Valid culetlaw28_Part culetlaw28_Part.pre culetref27_Inside a0_0 a0_1 a0_2 a0_3 a0_4 a0_5 a1_0 a1_1 a1_2 a1_3 a1_4 a1_5 a2_0 a2_1 a2_2 a2_3 a2_4 a2_5 a2_6 a2_7 some
def culetlaw29_RefractionInclusion.pre (a0_0 : Int) (a0_1 : Int) (a0_2 : Int) (a0_3 : Int) (a0_4 : Int) (a0_5 : Int) (a1_0 : Int) (a1_1 : Int) (a1_2 : Int) (a1_3 : Int) (a1_4 : Int) (a1_5 : Int) (a2_0 : Int) (a2_1 : Int) (a2_2 : Int) (a2_3 : Int) (a2_4 : Int) (a2_5 : Int) (a2_6 : Int) (a2_7 : Int) : Bool := (culetlaw29_RefractionInclusion.o a0_0 a0_1 a0_2 a0_3 a0_4 a0_5 a1_0 a1_1 a1_2 a1_3 a1_4 a1_5 a2_0 a2_1 a2_2 a2_3 a2_4 a2_5 a2_6 a2_7).isSome
def culetlaw29_RefractionInclusion (a0_0 : Int) (a0_1 : Int) (a0_2 : Int) (a0_3 : Int) (a0_4 : Int) (a0_5 : Int) (a1_0 : Int) (a1_1 : Int) (a1_2 : Int) (a1_3 : Int) (a1_4 : Int) (a1_5 : Int) (a2_0 : Int) (a2_1 : Int) (a2_2 : Int) (a2_3 : Int) (a2_4 : Int) (a2_5 : Int) (a2_6 : Int) (a2_7 : Int) : Bool := (culetlaw29_RefractionInclusion.o a0_0 a0_1 a0_2 a0_3 a0_4 a0_5 a1_0 a1_1 a1_2 a1_3 a1_4 a1_5 a2_0 a2_1 a2_2 a2_3 a2_4 a2_5 a2_6 a2_7).getD default
theorem culetlaw29_RefractionInclusion.nat {R : Type} (f_culetlaw29_awake : (Bool)) (f_refraction_Refract : Int → Int → Int → Int → Int → Int → Int → Int → Int → Int → Int → Int → Int → Int → (Int × Int × Int × Int × Int × Int × Int × Int × Int × Int × Int)) (f_culetlaw29_theirs : Int → Int → Int → Int → Int → Int → (Int × Int × Int × Int × Int × Int)) (f_refraction_Hits : Int → Int → Int → Int → Int → Int → Int → Int → Int → Int → Int → Int → Int → Int → (Int × Int)) (f_direction_Inside : Int → Int → Int → Int → Int → Int → Int → Int → Int → Int → Int → Int → (Bool)) (f_refraction_Reflect : Int → Int → Int → Int → Int → Int → Int → Int → Int → Int → Int → Int → (Int × Int × Int × Int × Int × Int × Int)) (f_culetref28_Valid : Int → Int → Int → Int → Int → Int → (Bool)) (f_culetref27_Valid : Int → Int → (Bool)) (f_culetlaw28_Part : Int → Int → Int → Int → Int → Int → Int → Int → Int → Int → Int → Int → (Int × Int × Int × Int × Int × Int)) (p_culetlaw28_Part : Int → Int → Int → Int → Int → Int → Int → Int → Int → Int → Int → Int → Bool) (f_culetref27_Inside : Int → Int → Int → Int → (Bool)) (a0_0 : Int) (a0_1 : Int) (a0_2 : Int) (a0_3 : Int) (a0_4 : Int) (a0_5 : Int) (a1_0 : Int) (a1_1 : Int) (a1_2 : Int) (a1_3 : Int) (a1_4 : Int) (a1_5 : Int) (a2_0 : Int) (a2_1 : Int) (a2_2 : Int) (a2_3 : Int) (a2_4 : Int) (a2_5 : Int) (a2_6 : Int) (a2_7 : Int) (k : (Bool) → Option R) : culetlaw29_RefractionInclusion.K f_culetlaw29_awake f_refraction_Refract f_culetlaw29_theirs f_refraction_Hits f_direction_Inside f_refraction_Reflect f_culetref28_Valid f_culetref27_Valid f_culetlaw28_Part p_culetlaw28_Part f_culetref27_Inside a0_0 a0_1 a0_2 a0_3 a0_4 a0_5 a1_0 a1_1 a1_2 a1_3 a1_4 a1_5 a2_0 a2_1 a2_2 a2_3 a2_4 a2_5 a2_6 a2_7 k = (culetlaw29_RefractionInclusion.K f_culetlaw29_awake f_refraction_Refract f_culetlaw29_theirs f_refraction_Hits f_direction_Inside f_refraction_Reflect f_culetref28_Valid f_culetref27_Valid f_culetlaw28_Part p_culetlaw28_Part f_culetref27_Inside a0_0 a0_1 a0_2 a0_3 a0_4 a0_5 a1_0 a1_1 a1_2 a1_3 a1_4 a1_5 a2_0 a2_1 a2_2 a2_3 a2_4 a2_5 a2_6 a2_7 some).bind k := by
  simp only [culetlaw29_RefractionInclusion.K, bcond, Option.bind_some, Option.bind_none]
theorem cond_self' {α : Type} (b : Bool) (x : α) : (bif b then x else x) = x := by cases b <;> rfl
theorem RefractionInclusion.law {a0 a1 a2 a3 a4 a5 b0 b1 b2 b3 b4 b5 r0 r1 k0 k1 k2 k3 k4 k5 : Int} (h0 : 0 ≤ k0 ∧ k0 ≤ 4294967295) (h1 : 0 ≤ k1 ∧ k1 ≤ 4294967295) (h2 : 0 ≤ k2 ∧ k2 ≤ 4294967295) (h3 : 0 ≤ k3 ∧ k3 ≤ 4294967295) (h4 : 0 ≤ k4 ∧ k4 ≤ 4294967295) (h5 : 0 ≤ k5 ∧ k5 ≤ 4294967295) : culetlaw29_RefractionInclusion.o a0 a1 a2 a3 a4 a5 b0 b1 b2 b3 b4 b5 r0 r1 k0 k1 k2 k3 k4 k5 = some true := by
  simp only [culetlaw29_RefractionInclusion.o, culetlaw29_RefractionInclusion.K, awake_true, theirs_eq, culetref28_Valid.eq, culetref27_Valid.eq, refraction_Reflect.eq, refraction_Hits.eq, refraction_Refract.eq, Bool.not_true, cond_false]
  cases hA : VB ((a0, a1), (a2, a3), (a4, a5)) with
  | false => rfl
  | true =>
  cases hB : VB ((b0, b1), (b2, b3), (b4, b5)) with
  | false => rfl
  | true =>
  cases hR : V r0 r1 with
  | false => rfl
  | true =>
    have iA := culetlaw28_Part.in hA h0 h1 h2 h3 h4 h5
    have iB := culetlaw28_Part.in hB h0 h1 h2 h3 h4 h5
    simp only [iA.1, iB.1, Bool.not_true, cond_false, cond_true]
    have sA := iA.2
    have sB := iB.2
    generalize culetlaw28_Part a0 a1 a2 a3 a4 a5 k0 k1 k2 k3 k4 k5 = p at *
    generalize culetlaw28_Part b0 b1 b2 b3 b4 b5 k0 k1 k2 k3 k4 k5 = q at *
    obtain ⟨p0, p1, p2, p3, p4, p5⟩ := p
    obtain ⟨q0, q1, q2, q3, q4, q5⟩ := q
    simp only [bxv] at sA sB ⊢
    have sR : S2 (r0, r1) (r0, r1) := S2.refl hR
    have I1 := rflx_inc sA sB
    have I2 := hit_inc sA sB sR
    have I3 := rfc_inc sA sB sR
    have N1 := rflx_nz ((a0, a1), (a2, a3), (a4, a5)) ((b0, b1), (b2, b3), (b4, b5))
    have N2 := hit_nz ((a0, a1), (a2, a3), (a4, a5)) ((b0, b1), (b2, b3), (b4, b5)) (r0, r1)
    have N3 := rfc_nz ((a0, a1), (a2, a3), (a4, a5)) ((b0, b1), (b2, b3), (b4, b5)) (r0, r1)
    have F1 : ∀ {x y : Re Bx}, Inc SB x y → Nz y → ((o7 y).2.2.2.2.2.2 == 0) = true ∧ ((o7 x).2.2.2.2.2.2 != 0) = false ∧ direction_Inside (o7 x).1 (o7 x).2.1 (o7 x).2.2.1 (o7 x).2.2.2.1 (o7 x).2.2.2.2.1 (o7 x).2.2.2.2.2.1 (o7 y).1 (o7 y).2.1 (o7 y).2.2.1 (o7 y).2.2.2.1 (o7 y).2.2.2.2.1 (o7 y).2.2.2.2.2.1 = true ∨ ((o7 y).2.2.2.2.2.2 == 0) = false := fun {x y} hi hn => by
      rcases hn.cases with ⟨b, hb⟩ | ⟨e, he, hb⟩
      · obtain ⟨a, ha, hr⟩ := hi b hb
        rw [ha, hb]
        exact Or.inl ⟨rfl, rfl, direction_Inside.of hr.1.inb hr.2.1.inb hr.2.2.inb⟩
      · rw [hb]; exact Or.inr (beq_of he)
    have F2 : ((o2 (hit ((a0, a1), (a2, a3), (a4, a5)) ((b0, b1), (b2, b3), (b4, b5)) (r0, r1))).2 == 0) = true ∧ ((o2 (hit ((p0, p1), (p2, p3), (p4, p5)) ((q0, q1), (q2, q3), (q4, q5)) (r0, r1))).2 != 0) = false ∧ (((o2 (hit ((a0, a1), (a2, a3), (a4, a5)) ((b0, b1), (b2, b3), (b4, b5)) (r0, r1))).1 != (o2 (hit ((p0, p1), (p2, p3), (p4, p5)) ((q0, q1), (q2, q3), (q4, q5)) (r0, r1))).1) = false ∨ ((o2 (hit ((a0, a1), (a2, a3), (a4, a5)) ((b0, b1), (b2, b3), (b4, b5)) (r0, r1))).1 != 3) = false) ∨ ((o2 (hit ((a0, a1), (a2, a3), (a4, a5)) ((b0, b1), (b2, b3), (b4, b5)) (r0, r1))).2 == 0) = false := by
      rcases N2.cases with ⟨b, hb⟩ | ⟨e, he, hb⟩
      · obtain ⟨a, ha, hr⟩ := I2 b hb
        rw [ha, hb]
        refine Or.inl ⟨rfl, rfl, ?_⟩
        rcases hr with hr | hr
        · subst hr; exact Or.inl (bne_self_eq_false a)
        · subst hr; exact Or.inr rfl
      · rw [hb]; exact Or.inr (beq_of he)
    have F3 : ((o11 (rfc ((a0, a1), (a2, a3), (a4, a5)) ((b0, b1), (b2, b3), (b4, b5)) (r0, r1))).2.2.2.2.2.2.2.2.2.2 != 0) = true ∨ ∃ x0 x1 x2 x3 x4 x5 x6 x7 x8 x9 y0 y1 y2 y3 y4 y5 y6 y7 y8 y9, o11 (rfc ((a0, a1), (a2, a3), (a4, a5)) ((b0, b1), (b2, b3), (b4, b5)) (r0, r1)) = (y0, y1, y2, y3, y4, y5, y6, y7, y8, y9, 0) ∧ o11 (rfc ((p0, p1), (p2, p3), (p4, p5)) ((q0, q1), (q2, q3), (q4, q5)) (r0, r1)) = (x0, x1, x2, x3, x4, x5, x6, x7, x8, x9, 0) ∧ direction_Inside x0 x1 x2 x3 x4 x5 y0 y1 y2 y3 y4 y5 = true ∧ culetref27_Inside x6 x7 y6 y7 = true ∧ culetref27_Inside x8 x9 y8 y9 = true := by
      rcases N3.cases with ⟨⟨⟨⟨y0, y1⟩, ⟨y2, y3⟩, ⟨y4, y5⟩⟩, ⟨y6, y7⟩, ⟨y8, y9⟩⟩, hb⟩ | ⟨e, he, hb⟩
      · obtain ⟨⟨⟨⟨x0, x1⟩, ⟨x2, x3⟩, ⟨x4, x5⟩⟩, ⟨x6, x7⟩, ⟨x8, x9⟩⟩, ha, hr⟩ := I3 _ hb
        rw [ha, hb]
        exact Or.inr ⟨x0, x1, x2, x3, x4, x5, x6, x7, x8, x9, y0, y1, y2, y3, y4, y5, y6, y7, y8, y9, rfl, rfl, direction_Inside.of hr.1.1.inb hr.1.2.1.inb hr.1.2.2.inb, culetref27_Inside.of hr.2.1.inb, culetref27_Inside.of hr.2.2.inb⟩
      · rw [hb]; exact Or.inl (bne_of he)
    rcases F1 I1 N1 with ⟨u1, u2, u3⟩ | u1 <;> rcases F2 with ⟨v1, v2, v3 | v3⟩ | v1 <;> rcases F3 with w1 | ⟨x0, x1, x2, x3, x4, x5, x6, x7, x8, x9, y0, y1, y2, y3, y4, y5, y6, y7, y8, y9, w1, w2, w3, w4, w5⟩ <;> simp only [*, cond_true, cond_false, bne_self_eq_false, beq_self_eq_true, Bool.not_true, ite_self, cond_self']
theorem culetlaw29_RefractionInclusion.calls (a0_0 : Int) (a0_1 : Int) (a0_2 : Int) (a0_3 : Int) (a0_4 : Int) (a0_5 : Int) (a1_0 : Int) (a1_1 : Int) (a1_2 : Int) (a1_3 : Int) (a1_4 : Int) (a1_5 : Int) (a2_0 : Int) (a2_1 : Int) (a2_2 : Int) (a2_3 : Int) (a2_4 : Int) (a2_5 : Int) (a2_6 : Int) (a2_7 : Int) (h : culetlaw29_RefractionInclusion.o a0_0 a0_1 a0_2 a0_3 a0_4 a0_5 a1_0 a1_1 a1_2 a1_3 a1_4 a1_5 a2_0 a2_1 a2_2 a2_3 a2_4 a2_5 a2_6 a2_7 = some true) (w : World) : Calls Try.prog 7 ⟨[.agg ⟨[.int .i64 a0_0, .int .i64 a0_1, .int .i64 a0_2, .int .i64 a0_3, .int .i64 a0_4, .int .i64 a0_5]⟩, .agg ⟨[.int .i64 a1_0, .int .i64 a1_1, .int .i64 a1_2, .int .i64 a1_3, .int .i64 a1_4, .int .i64 a1_5]⟩, .agg ⟨[.int .i64 a2_0, .int .i64 a2_1, .int .u32 a2_2, .int .u32 a2_3, .int .u32 a2_4, .int .u32 a2_5, .int .u32 a2_6, .int .u32 a2_7]⟩]⟩ w fun e w' => e = .returned (.bool true) ∧ Below w.heap.size w w' := by
  refine calls_run (E := ⟨[(8, culetlaw29_awake.sp culetlaw29_awake), (9, refraction_Refract.sp refraction_Refract), (11, culetlaw29_theirs.sp culetlaw29_theirs), (12, refraction_Hits.sp refraction_Hits), (14, direction_Inside.sp direction_Inside), (16, refraction_Reflect.sp refraction_Reflect), (25, culetref28_Valid.sp culetref28_Valid), (26, culetref27_Valid.sp culetref27_Valid), (27, culetlaw28_Part.sp culetlaw28_Part culetlaw28_Part.pre), (28, culetref27_Inside.sp culetref27_Inside)], []⟩) ⟨(specs_cons culetlaw29_awake.ok (specs_cons refraction_Refract.ok (specs_cons culetlaw29_theirs.ok (specs_cons refraction_Hits.ok (specs_cons direction_Inside.ok (specs_cons refraction_Reflect.ok (specs_cons culetref28_Valid.ok (specs_cons culetref27_Valid.ok (specs_cons culetlaw28_Part.ok (specs_cons culetref27_Inside.ok specs_nil)))))))))), inl_nil, mixed_ok⟩ 40 Try.func7 (by decide) rfl no_loops (vs := [.agg ⟨[.int .i64 a0_0, .int .i64 a0_1, .int .i64 a0_2, .int .i64 a0_3, .int .i64 a0_4, .int .i64 a0_5]⟩, .agg ⟨[.int .i64 a1_0, .int .i64 a1_1, .int .i64 a1_2, .int .i64 a1_3, .int .i64 a1_4, .int .i64 a1_5]⟩, .agg ⟨[.int .i64 a2_0, .int .i64 a2_1, .int .u32 a2_2, .int .u32 a2_3, .int .u32 a2_4, .int .u32 a2_5, .int .u32 a2_6, .int .u32 a2_7]⟩]) (v := .bool true) ?_ (by simp [okV, Nat.blt]) (clo_spec 8 _ rfl) w
  refine (culetlaw29_RefractionInclusion.run culetlaw29_awake refraction_Refract culetlaw29_theirs refraction_Hits direction_Inside refraction_Reflect culetref28_Valid culetref27_Valid culetlaw28_Part culetlaw28_Part.pre culetref27_Inside a0_0 a0_1 a0_2 a0_3 a0_4 a0_5 a1_0 a1_1 a1_2 a1_3 a1_4 a1_5 a2_0 a2_1 a2_2 a2_3 a2_4 a2_5 a2_6 a2_7).trans ?_
  rw [culetlaw29_RefractionInclusion.nat]
  have h4 : culetlaw29_RefractionInclusion.K culetlaw29_awake refraction_Refract culetlaw29_theirs refraction_Hits direction_Inside refraction_Reflect culetref28_Valid culetref27_Valid culetlaw28_Part culetlaw28_Part.pre culetref27_Inside a0_0 a0_1 a0_2 a0_3 a0_4 a0_5 a1_0 a1_1 a1_2 a1_3 a1_4 a1_5 a2_0 a2_1 a2_2 a2_3 a2_4 a2_5 a2_6 a2_7 some = some true := h
  rw [h4]
  rfl

end Go.Proofs.Ytphlckkbihmlnaa.G
