/- The functions, their runs and their contracts. WRITTEN BY gen.py of this repo. -/
import Derived.Test.YtphlckkbihmlnaaS
import Derived.Test.YtphlckkbihmlnaaM
import Derived.Test.YtphlckkbihmlnaaIv
import Derived.Test.YtphlckkbihmlnaaRf
import Derived.Test.YtphlckkbihmlnaaF1
import Derived.Test.YtphlckkbihmlnaaExt
import Derived.Test.YtphlckkbihmlnaaRoot
namespace Go.Proofs.Ytphlckkbihmlnaa.G
open Go Go.Proofs Go.RowKit RX
set_option linter.unusedVariables false
set_option linter.unusedSimpArgs false
/-! ### culet/culetref29.Radicand (19) -/
def culetref29_Radicand.K {R : Type} (f_culetref28_One : (Int × Int)) (f_culetref27_Valid : Int → Int → (Bool)) (f_culetref28_Calc_Sub : Int → Int → Int → Int → Int → (Int × Int × Int)) (f_culetref28_Calc_Mul : Int → Int → Int → Int → Int → (Int × Int × Int)) (f_culetref28_Calc_Square : Int → Int → Int → (Int × Int × Int)) (a0_0 : Int) (a0_1 : Int) (a1_0 : Int) (a1_1 : Int) (k : Int × Int × Int → R) : R :=
  let t0 := f_culetref27_Valid a0_0 a0_1
  bif !t0 then
    k (0, 0, 1)
  else
    let t1 := f_culetref27_Valid a1_0 a1_1
    bif !t1 then
      k (0, 0, 1)
    else
      let t2 := f_culetref28_Calc_Square 0 a1_0 a1_1
      let t3 := f_culetref28_Calc_Square t2.snd.snd a0_0 a0_1
      let t4 := f_culetref28_Calc_Sub t3.snd.snd f_culetref28_One.fst f_culetref28_One.snd t3.fst t3.snd.fst
      let t5 := f_culetref28_Calc_Mul t4.snd.snd t2.fst t2.snd.fst t4.fst t4.snd.fst
      let t6 := f_culetref28_Calc_Sub t5.snd.snd f_culetref28_One.fst f_culetref28_One.snd t5.fst t5.snd.fst
      bif t6.snd.snd != 0 then
        k (0, 0, t6.snd.snd)
      else
        k (t6.fst, t6.snd.fst, 0)
set_option maxRecDepth 100000 in
theorem culetref29_Radicand.run (f_culetref28_One : (Int × Int)) (f_culetref27_Valid : Int → Int → (Bool)) (f_culetref28_Calc_Sub : Int → Int → Int → Int → Int → (Int × Int × Int)) (f_culetref28_Calc_Mul : Int → Int → Int → Int → Int → (Int × Int × Int)) (f_culetref28_Calc_Square : Int → Int → Int → (Int × Int × Int)) (a0_0 : Int) (a0_1 : Int) (a1_0 : Int) (a1_1 : Int) : xfn Try.prog ⟨[(13, culetref28_One.sp f_culetref28_One), (26, culetref27_Valid.sp f_culetref27_Valid), (48, culetref28_Calc_Sub.sp f_culetref28_Calc_Sub), (49, culetref28_Calc_Mul.sp f_culetref28_Calc_Mul), (59, culetref28_Calc_Square.sp f_culetref28_Calc_Square)], []⟩ [] 40 Try.f19 [.agg ⟨[.int .i64 a0_0, .int .i64 a0_1]⟩, .agg ⟨[.int .i64 a1_0, .int .i64 a1_1]⟩] [] = culetref29_Radicand.K f_culetref28_One f_culetref27_Valid f_culetref28_Calc_Sub f_culetref28_Calc_Mul f_culetref28_Calc_Square a0_0 a0_1 a1_0 a1_1 (fun r => some (.tuple ⟨[.agg ⟨[.int .i64 r.1, .int .i64 r.2.1]⟩, .int .i64 r.2.2]⟩, [])) := by kernel_rfl
def culetref29_Radicand (a0_0 : Int) (a0_1 : Int) (a1_0 : Int) (a1_1 : Int) : Int × Int × Int := culetref29_Radicand.K culetref28_One culetref27_Valid culetref28_Calc_Sub culetref28_Calc_Mul culetref28_Calc_Square a0_0 a0_1 a1_0 a1_1 id
theorem culetref29_Radicand.nat {R : Type} (f_culetref28_One : (Int × Int)) (f_culetref27_Valid : Int → Int → (Bool)) (f_culetref28_Calc_Sub : Int → Int → Int → Int → Int → (Int × Int × Int)) (f_culetref28_Calc_Mul : Int → Int → Int → Int → Int → (Int × Int × Int)) (f_culetref28_Calc_Square : Int → Int → Int → (Int × Int × Int)) (a0_0 : Int) (a0_1 : Int) (a1_0 : Int) (a1_1 : Int) (k : Int × Int × Int → R) : culetref29_Radicand.K f_culetref28_One f_culetref27_Valid f_culetref28_Calc_Sub f_culetref28_Calc_Mul f_culetref28_Calc_Square a0_0 a0_1 a1_0 a1_1 k = k (culetref29_Radicand.K f_culetref28_One f_culetref27_Valid f_culetref28_Calc_Sub f_culetref28_Calc_Mul f_culetref28_Calc_Square a0_0 a0_1 a1_0 a1_1 id) := by
  simp only [culetref29_Radicand.K, acond k, id_eq]
theorem culetref29_Radicand.eq (a b c d : Int) : culetref29_Radicand a b c d = o3 (rdc (a, b) (c, d)) := by
  simp only [culetref29_Radicand, culetref29_Radicand.K, id_eq, culetref27_Valid.eq, culetref28_One.eq, culetref28_Calc_Square.eq, culetref28_Calc_Sub.eq, culetref28_Calc_Mul.eq, rdc, V2, sqR, subR, mulR, one2]
  cases hV0 : V a b with
  | false =>
    simp only [hV0, st0, kr0, st70, t3_ok, bind_ok, bind_er, o7, o3, o2, o11, V2_mk, kp0, cond_true, cond_false, Bool.not_true, Bool.not_false, Bool.false_and, Bool.and_false, Bool.true_and, Bool.and_true, bne_self_eq_false, beq_self_eq_true, if_true, if_false]
  | true =>
    cases hV1 : V c d with
    | false =>
      simp only [hV0, hV1, st0, kr0, st70, t3_ok, bind_ok, bind_er, o7, o3, o2, o11, V2_mk, kp0, cond_true, cond_false, Bool.not_true, Bool.not_false, Bool.false_and, Bool.and_false, Bool.true_and, Bool.and_true, bne_self_eq_false, beq_self_eq_true, if_true, if_false]
    | true =>
      rcases t3c (isq c d) with ⟨q0, q1, h0⟩ | ⟨q0, q1, e0, n0, h0⟩
      · simp only [hV0, hV1, h0, st0, kr0, st70, t3_ok, bind_ok, bind_er, o7, o3, o2, o11, V2_mk, kp0, cond_true, cond_false, Bool.not_true, Bool.not_false, Bool.false_and, Bool.and_false, Bool.true_and, Bool.and_true, bne_self_eq_false, beq_self_eq_true, if_true, if_false]
        rcases t3c (isq a b) with ⟨s0, s1, h1⟩ | ⟨s0, s1, e1, n1, h1⟩
        · simp only [h1, st0, kr0, st70, t3_ok, bind_ok, bind_er, o7, o3, o2, o11, V2_mk, kp0, cond_true, cond_false, Bool.not_true, Bool.not_false, Bool.false_and, Bool.and_false, Bool.true_and, Bool.and_true, bne_self_eq_false, beq_self_eq_true, if_true, if_false]
          rcases t3c (isub 16777216 16777216 s0 s1) with ⟨t0, t1, h2⟩ | ⟨t0, t1, e2, n2, h2⟩
          · simp only [h2, st0, kr0, st70, t3_ok, bind_ok, bind_er, o7, o3, o2, o11, V2_mk, kp0, cond_true, cond_false, Bool.not_true, Bool.not_false, Bool.false_and, Bool.and_false, Bool.true_and, Bool.and_true, bne_self_eq_false, beq_self_eq_true, if_true, if_false]
            rcases t3c (imul q0 q1 t0 t1) with ⟨p0, p1, h3⟩ | ⟨p0, p1, e3, n3, h3⟩
            · simp only [h3, st0, kr0, st70, t3_ok, bind_ok, bind_er, o7, o3, o2, o11, V2_mk, kp0, cond_true, cond_false, Bool.not_true, Bool.not_false, Bool.false_and, Bool.and_false, Bool.true_and, Bool.and_true, bne_self_eq_false, beq_self_eq_true, if_true, if_false]
              rcases t3c (isub 16777216 16777216 p0 p1) with ⟨u0, u1, h4⟩ | ⟨u0, u1, e4, n4, h4⟩
              · simp only [h4, st0, kr0, st70, t3_ok, bind_ok, bind_er, o7, o3, o2, o11, V2_mk, kp0, cond_true, cond_false, Bool.not_true, Bool.not_false, Bool.false_and, Bool.and_false, Bool.true_and, Bool.and_true, bne_self_eq_false, beq_self_eq_true, if_true, if_false]
              · simp only [h4, stE n4, krE n4, st7E n4, t3_er n4, bne_of n4, beq_of n4, kpn _ n4, st0, kr0, st70, t3_ok, bind_ok, bind_er, o7, o3, o2, o11, V2_mk, kp0, cond_true, cond_false, Bool.not_true, Bool.not_false, Bool.false_and, Bool.and_false, Bool.true_and, Bool.and_true, bne_self_eq_false, beq_self_eq_true, if_true, if_false]
            · simp only [h3, stE n3, krE n3, st7E n3, t3_er n3, bne_of n3, beq_of n3, kpn _ n3, st0, kr0, st70, t3_ok, bind_ok, bind_er, o7, o3, o2, o11, V2_mk, kp0, cond_true, cond_false, Bool.not_true, Bool.not_false, Bool.false_and, Bool.and_false, Bool.true_and, Bool.and_true, bne_self_eq_false, beq_self_eq_true, if_true, if_false]
          · simp only [h2, stE n2, krE n2, st7E n2, t3_er n2, bne_of n2, beq_of n2, kpn _ n2, st0, kr0, st70, t3_ok, bind_ok, bind_er, o7, o3, o2, o11, V2_mk, kp0, cond_true, cond_false, Bool.not_true, Bool.not_false, Bool.false_and, Bool.and_false, Bool.true_and, Bool.and_true, bne_self_eq_false, beq_self_eq_true, if_true, if_false]
        · simp only [h1, stE n1, krE n1, st7E n1, t3_er n1, bne_of n1, beq_of n1, kpn _ n1, st0, kr0, st70, t3_ok, bind_ok, bind_er, o7, o3, o2, o11, V2_mk, kp0, cond_true, cond_false, Bool.not_true, Bool.not_false, Bool.false_and, Bool.and_false, Bool.true_and, Bool.and_true, bne_self_eq_false, beq_self_eq_true, if_true, if_false]
      · simp only [hV0, hV1, h0, stE n0, krE n0, st7E n0, t3_er n0, bne_of n0, beq_of n0, kpn _ n0, st0, kr0, st70, t3_ok, bind_ok, bind_er, o7, o3, o2, o11, V2_mk, kp0, cond_true, cond_false, Bool.not_true, Bool.not_false, Bool.false_and, Bool.and_false, Bool.true_and, Bool.and_true, bne_self_eq_false, beq_self_eq_true, if_true, if_false]
theorem culetref29_Radicand.ok : SOK Try.prog 19 (culetref29_Radicand.sp culetref29_Radicand) := by
  refine sok_of (E := ⟨[(13, culetref28_One.sp culetref28_One), (26, culetref27_Valid.sp culetref27_Valid), (48, culetref28_Calc_Sub.sp culetref28_Calc_Sub), (49, culetref28_Calc_Mul.sp culetref28_Calc_Mul), (59, culetref28_Calc_Square.sp culetref28_Calc_Square)], []⟩) ⟨(specs_cons culetref28_One.ok (specs_cons culetref27_Valid.ok (specs_cons culetref28_Calc_Sub.ok (specs_cons culetref28_Calc_Mul.ok (specs_cons culetref28_Calc_Square.ok specs_nil))))), inl_nil, mixed_ok⟩ 40 Try.func19 (by decide) rfl no_loops fun vs bl v bl' h => ?_
  unfold culetref29_Radicand.sp at h
  split at h
  · rename_i a0_0 a0_1 a1_0 a1_1
    simp only [Option.some.injEq, Prod.mk.injEq, true_and] at h
    obtain ⟨rfl, rfl⟩ := h
    refine ⟨?_, by simp [okV, Nat.blt], clo_spec 8 _ (by kernel_rfl), told_blk (by kernel_rfl)⟩
    refine (culetref29_Radicand.run culetref28_One culetref27_Valid culetref28_Calc_Sub culetref28_Calc_Mul culetref28_Calc_Square a0_0 a0_1 a1_0 a1_1).trans ?_
    refine (culetref29_Radicand.nat culetref28_One culetref27_Valid culetref28_Calc_Sub culetref28_Calc_Mul culetref28_Calc_Square a0_0 a0_1 a1_0 a1_1 _).trans ?_
    kernel_rfl
  · cases h

/-! ### culet/culetref28.Valid (25) -/
def culetref28_Valid.K {R : Type} (f_culetref27_Valid : Int → Int → (Bool)) (a0_0 : Int) (a0_1 : Int) (a0_2 : Int) (a0_3 : Int) (a0_4 : Int) (a0_5 : Int) (k : (Bool) → R) : R :=
  let t0 := f_culetref27_Valid a0_0 a0_1
  bif t0 then
    let t1 := f_culetref27_Valid a0_2 a0_3
    bif t1 then
      let t2 := f_culetref27_Valid a0_4 a0_5
      k (t2)
    else
      k (false)
  else
    k (false)
set_option maxRecDepth 100000 in
theorem culetref28_Valid.run (f_culetref27_Valid : Int → Int → (Bool)) (a0_0 : Int) (a0_1 : Int) (a0_2 : Int) (a0_3 : Int) (a0_4 : Int) (a0_5 : Int) : xfn Try.prog ⟨[(26, culetref27_Valid.sp f_culetref27_Valid)], []⟩ [] 40 Try.f25 [.agg ⟨[.int .i64 a0_0, .int .i64 a0_1, .int .i64 a0_2, .int .i64 a0_3, .int .i64 a0_4, .int .i64 a0_5]⟩] [] = culetref28_Valid.K f_culetref27_Valid a0_0 a0_1 a0_2 a0_3 a0_4 a0_5 (fun r => some (.bool r, [])) := by kernel_rfl
def culetref28_Valid (a0_0 : Int) (a0_1 : Int) (a0_2 : Int) (a0_3 : Int) (a0_4 : Int) (a0_5 : Int) : Bool := culetref28_Valid.K culetref27_Valid a0_0 a0_1 a0_2 a0_3 a0_4 a0_5 id
theorem culetref28_Valid.nat {R : Type} (f_culetref27_Valid : Int → Int → (Bool)) (a0_0 : Int) (a0_1 : Int) (a0_2 : Int) (a0_3 : Int) (a0_4 : Int) (a0_5 : Int) (k : (Bool) → R) : culetref28_Valid.K f_culetref27_Valid a0_0 a0_1 a0_2 a0_3 a0_4 a0_5 k = k (culetref28_Valid.K f_culetref27_Valid a0_0 a0_1 a0_2 a0_3 a0_4 a0_5 id) := by
  simp only [culetref28_Valid.K, acond k, id_eq]
theorem culetref28_Valid.eq (a0 a1 a2 a3 a4 a5 : Int) : culetref28_Valid a0 a1 a2 a3 a4 a5 = VB ((a0, a1), (a2, a3), (a4, a5)) := by
  simp only [culetref28_Valid, culetref28_Valid.K, id_eq, culetref27_Valid.eq, VB, V2]
  cases V a0 a1 <;> cases V a2 a3 <;> cases V a4 a5 <;> rfl
theorem culetref28_Valid.ok : SOK Try.prog 25 (culetref28_Valid.sp culetref28_Valid) := by
  refine sok_of (E := ⟨[(26, culetref27_Valid.sp culetref27_Valid)], []⟩) ⟨(specs_cons culetref27_Valid.ok specs_nil), inl_nil, mixed_ok⟩ 40 Try.func25 (by decide) rfl no_loops fun vs bl v bl' h => ?_
  unfold culetref28_Valid.sp at h
  split at h
  · rename_i a0_0 a0_1 a0_2 a0_3 a0_4 a0_5
    simp only [Option.some.injEq, Prod.mk.injEq, true_and] at h
    obtain ⟨rfl, rfl⟩ := h
    refine ⟨?_, by simp [okV, Nat.blt], clo_spec 8 _ (by kernel_rfl), told_blk (by kernel_rfl)⟩
    refine (culetref28_Valid.run culetref27_Valid a0_0 a0_1 a0_2 a0_3 a0_4 a0_5).trans ?_
    refine (culetref28_Valid.nat culetref27_Valid a0_0 a0_1 a0_2 a0_3 a0_4 a0_5 _).trans ?_
    kernel_rfl
  · cases h

/-! ### (*culet/culetref28.Calc).only (77) -/
def culetref28_Calc_only.K {R : Type} (s0_0 : Int) (a1_0 : Int) (a1_1 : Int) (k : Int × Int × Int × Int → R) : R :=
  bif s0_0 != 0 then
    k (0, 0, s0_0, s0_0)
  else
    k (a1_0, a1_1, 0, s0_0)
set_option maxRecDepth 100000 in
theorem culetref28_Calc_only.run (s0_0 : Int) (a1_0 : Int) (a1_1 : Int) : xfn Try.prog ⟨[], []⟩ [] 40 Try.f77 [.pointer (some ⟨0, 0, none⟩), .agg ⟨[.int .i64 a1_0, .int .i64 a1_1]⟩] [.cs [.int .i64 s0_0] 71] = culetref28_Calc_only.K s0_0 a1_0 a1_1 (fun r => some (.tuple ⟨[.agg ⟨[.int .i64 r.1, .int .i64 r.2.1]⟩, .int .i64 r.2.2.1]⟩, [.cs [.int .i64 r.2.2.2] 71])) := by kernel_rfl
def culetref28_Calc_only (s0_0 : Int) (a1_0 : Int) (a1_1 : Int) : Int × Int × Int × Int := culetref28_Calc_only.K s0_0 a1_0 a1_1 id
theorem culetref28_Calc_only.nat {R : Type} (s0_0 : Int) (a1_0 : Int) (a1_1 : Int) (k : Int × Int × Int × Int → R) : culetref28_Calc_only.K s0_0 a1_0 a1_1 k = k (culetref28_Calc_only.K s0_0 a1_0 a1_1 id) := by
  simp only [culetref28_Calc_only.K, acond k, id_eq]
theorem culetref28_Calc_only.ok : SOK Try.prog 77 (culetref28_Calc_only.sp culetref28_Calc_only) := by
  refine sok_of (E := ⟨[], []⟩) ⟨specs_nil, inl_nil, mixed_ok⟩ 40 Try.func77 (by decide) rfl no_loops fun vs bl v bl' h => ?_
  unfold culetref28_Calc_only.sp at h
  split at h
  · rename_i a1_0 a1_1 s0_0
    simp only [Option.some.injEq, Prod.mk.injEq, true_and] at h
    obtain ⟨rfl, rfl⟩ := h
    refine ⟨?_, by simp [okV, Nat.blt], clo_spec 8 _ (by kernel_rfl), told_blk (by kernel_rfl)⟩
    refine (culetref28_Calc_only.run s0_0 a1_0 a1_1).trans ?_
    refine (culetref28_Calc_only.nat s0_0 a1_0 a1_1 _).trans ?_
    kernel_rfl
  · cases h

/-! ### culet/culetref27.Add (54) -/
def culetref27_Add.K {R : Type} (f_culetref27_both : Int → Int → Int → Int → (Bool)) (f_culetref27_checked : Int → Int → (Int × Int × Int)) (a0_0 : Int) (a0_1 : Int) (a1_0 : Int) (a1_1 : Int) (k : Int × Int × Int → R) : R :=
  let t0 := f_culetref27_both a0_0 a0_1 a1_0 a1_1
  bif !t0 then
    k (0, 0, 1)
  else
    let t1 := f_culetref27_checked (IntKind.i64.wrap (a0_0 + a1_0)) (IntKind.i64.wrap (a0_1 + a1_1))
    k (t1.fst, t1.snd.fst, t1.snd.snd)
set_option maxRecDepth 100000 in
theorem culetref27_Add.run (f_culetref27_both : Int → Int → Int → Int → (Bool)) (f_culetref27_checked : Int → Int → (Int × Int × Int)) (a0_0 : Int) (a0_1 : Int) (a1_0 : Int) (a1_1 : Int) : xfn Try.prog ⟨[(64, culetref27_both.sp f_culetref27_both), (85, culetref27_checked.sp f_culetref27_checked)], []⟩ [] 40 Try.f54 [.agg ⟨[.int .i64 a0_0, .int .i64 a0_1]⟩, .agg ⟨[.int .i64 a1_0, .int .i64 a1_1]⟩] [] = culetref27_Add.K f_culetref27_both f_culetref27_checked a0_0 a0_1 a1_0 a1_1 (fun r => some (.tuple ⟨[.agg ⟨[.int .i64 r.1, .int .i64 r.2.1]⟩, .int .i64 r.2.2]⟩, [])) := by kernel_rfl
def culetref27_Add (a0_0 : Int) (a0_1 : Int) (a1_0 : Int) (a1_1 : Int) : Int × Int × Int := culetref27_Add.K culetref27_both culetref27_checked a0_0 a0_1 a1_0 a1_1 id
theorem culetref27_Add.nat {R : Type} (f_culetref27_both : Int → Int → Int → Int → (Bool)) (f_culetref27_checked : Int → Int → (Int × Int × Int)) (a0_0 : Int) (a0_1 : Int) (a1_0 : Int) (a1_1 : Int) (k : Int × Int × Int → R) : culetref27_Add.K f_culetref27_both f_culetref27_checked a0_0 a0_1 a1_0 a1_1 k = k (culetref27_Add.K f_culetref27_both f_culetref27_checked a0_0 a0_1 a1_0 a1_1 id) := by
  simp only [culetref27_Add.K, acond k, id_eq]
theorem culetref27_Add.eq (a b c d : Int) : culetref27_Add a b c d = iadd a b c d := by
  simp only [culetref27_Add, culetref27_Add.K, id_eq, culetref27_both.eq, iadd]
  cases h : V a b && V c d with
  | false => simp
  | true =>
    have h' := h
    rw [Bool.and_eq_true] at h'
    have := V_iff.1 h'.1
    have := V_iff.1 h'.2
    rw [w64 (by omega) (by omega), w64 (by omega) (by omega), culetref27_checked.eq]
    simp
theorem culetref27_Add.ok : SOK Try.prog 54 (culetref27_Add.sp culetref27_Add) := by
  refine sok_of (E := ⟨[(64, culetref27_both.sp culetref27_both), (85, culetref27_checked.sp culetref27_checked)], []⟩) ⟨(specs_cons culetref27_both.ok (specs_cons culetref27_checked.ok specs_nil)), inl_nil, mixed_ok⟩ 40 Try.func54 (by decide) rfl no_loops fun vs bl v bl' h => ?_
  unfold culetref27_Add.sp at h
  split at h
  · rename_i a0_0 a0_1 a1_0 a1_1
    simp only [Option.some.injEq, Prod.mk.injEq, true_and] at h
    obtain ⟨rfl, rfl⟩ := h
    refine ⟨?_, by simp [okV, Nat.blt], clo_spec 8 _ (by kernel_rfl), told_blk (by kernel_rfl)⟩
    refine (culetref27_Add.run culetref27_both culetref27_checked a0_0 a0_1 a1_0 a1_1).trans ?_
    refine (culetref27_Add.nat culetref27_both culetref27_checked a0_0 a0_1 a1_0 a1_1 _).trans ?_
    kernel_rfl
  · cases h

/-! ### (*culet/culetref28.Calc).Add (78) -/
def culetref28_Calc_Add.K {R : Type} (f_culetref27_Add : Int → Int → Int → Int → (Int × Int × Int)) (f_culetref28_Calc_kept : Int → Int → Int → Int → (Int × Int × Int)) (s0_0 : Int) (a1_0 : Int) (a1_1 : Int) (a2_0 : Int) (a2_1 : Int) (k : Int × Int × Int → R) : R :=
  let t0 := f_culetref27_Add a1_0 a1_1 a2_0 a2_1
  let t1 := f_culetref28_Calc_kept s0_0 t0.fst t0.snd.fst t0.snd.snd
  k (t1.fst, t1.snd.fst, t1.snd.snd)
set_option maxRecDepth 100000 in
theorem culetref28_Calc_Add.run (f_culetref27_Add : Int → Int → Int → Int → (Int × Int × Int)) (f_culetref28_Calc_kept : Int → Int → Int → Int → (Int × Int × Int)) (s0_0 : Int) (a1_0 : Int) (a1_1 : Int) (a2_0 : Int) (a2_1 : Int) : xfn Try.prog ⟨[(54, culetref27_Add.sp f_culetref27_Add), (79, culetref28_Calc_kept.sp f_culetref28_Calc_kept)], []⟩ [] 40 Try.f78 [.pointer (some ⟨0, 0, none⟩), .agg ⟨[.int .i64 a1_0, .int .i64 a1_1]⟩, .agg ⟨[.int .i64 a2_0, .int .i64 a2_1]⟩] [.cs [.int .i64 s0_0] 71] = culetref28_Calc_Add.K f_culetref27_Add f_culetref28_Calc_kept s0_0 a1_0 a1_1 a2_0 a2_1 (fun r => some (.agg ⟨[.int .i64 r.1, .int .i64 r.2.1]⟩, [.cs [.int .i64 r.2.2] 71])) := by kernel_rfl
def culetref28_Calc_Add (s0_0 : Int) (a1_0 : Int) (a1_1 : Int) (a2_0 : Int) (a2_1 : Int) : Int × Int × Int := culetref28_Calc_Add.K culetref27_Add culetref28_Calc_kept s0_0 a1_0 a1_1 a2_0 a2_1 id
theorem culetref28_Calc_Add.nat {R : Type} (f_culetref27_Add : Int → Int → Int → Int → (Int × Int × Int)) (f_culetref28_Calc_kept : Int → Int → Int → Int → (Int × Int × Int)) (s0_0 : Int) (a1_0 : Int) (a1_1 : Int) (a2_0 : Int) (a2_1 : Int) (k : Int × Int × Int → R) : culetref28_Calc_Add.K f_culetref27_Add f_culetref28_Calc_kept s0_0 a1_0 a1_1 a2_0 a2_1 k = k (culetref28_Calc_Add.K f_culetref27_Add f_culetref28_Calc_kept s0_0 a1_0 a1_1 a2_0 a2_1 id) := by
  simp only [culetref28_Calc_Add.K, acond k, id_eq]
theorem culetref28_Calc_Add.eq (s a b c d : Int) : culetref28_Calc_Add s a b c d = kr s (iadd a b c d) := by
  simp only [culetref28_Calc_Add, culetref28_Calc_Add.K, id_eq, culetref27_Add.eq, kept_eq, kr]
theorem culetref28_Calc_Add.ok : SOK Try.prog 78 (culetref28_Calc_Add.sp culetref28_Calc_Add) := by
  refine sok_of (E := ⟨[(54, culetref27_Add.sp culetref27_Add), (79, culetref28_Calc_kept.sp culetref28_Calc_kept)], []⟩) ⟨(specs_cons culetref27_Add.ok (specs_cons culetref28_Calc_kept.ok specs_nil)), inl_nil, mixed_ok⟩ 40 Try.func78 (by decide) rfl no_loops fun vs bl v bl' h => ?_
  unfold culetref28_Calc_Add.sp at h
  split at h
  · rename_i a1_0 a1_1 a2_0 a2_1 s0_0
    simp only [Option.some.injEq, Prod.mk.injEq, true_and] at h
    obtain ⟨rfl, rfl⟩ := h
    refine ⟨?_, by simp [okV, Nat.blt], clo_spec 8 _ (by kernel_rfl), told_blk (by kernel_rfl)⟩
    refine (culetref28_Calc_Add.run culetref27_Add culetref28_Calc_kept s0_0 a1_0 a1_1 a2_0 a2_1).trans ?_
    refine (culetref28_Calc_Add.nat culetref27_Add culetref28_Calc_kept s0_0 a1_0 a1_1 a2_0 a2_1 _).trans ?_
    kernel_rfl
  · cases h

/-! ### culet/culetref28.Dot (43) -/
def culetref28_Dot.K {R : Type} (f_culetref28_Valid : Int → Int → Int → Int → Int → Int → (Bool)) (f_culetref28_Calc_Mul : Int → Int → Int → Int → Int → (Int × Int × Int)) (f_culetref28_Calc_only : Int → Int → Int → (Int × Int × Int × Int)) (f_culetref28_Calc_Add : Int → Int → Int → Int → Int → (Int × Int × Int)) (a0_0 : Int) (a0_1 : Int) (a0_2 : Int) (a0_3 : Int) (a0_4 : Int) (a0_5 : Int) (a1_0 : Int) (a1_1 : Int) (a1_2 : Int) (a1_3 : Int) (a1_4 : Int) (a1_5 : Int) (k : Int × Int × Int → R) : R :=
  let t0 := f_culetref28_Valid a0_0 a0_1 a0_2 a0_3 a0_4 a0_5
  bif !t0 then
    k (0, 0, 1)
  else
    let t1 := f_culetref28_Valid a1_0 a1_1 a1_2 a1_3 a1_4 a1_5
    bif !t1 then
      k (0, 0, 1)
    else
      let t2 := f_culetref28_Calc_Mul 0 a0_0 a0_1 a1_0 a1_1
      let t3 := f_culetref28_Calc_Mul t2.snd.snd a0_2 a0_3 a1_2 a1_3
      let t4 := f_culetref28_Calc_Mul t3.snd.snd a0_4 a0_5 a1_4 a1_5
      let t5 := f_culetref28_Calc_Add t4.snd.snd t2.fst t2.snd.fst t3.fst t3.snd.fst
      let t6 := f_culetref28_Calc_Add t5.snd.snd t5.fst t5.snd.fst t4.fst t4.snd.fst
      let t7 := f_culetref28_Calc_only t6.snd.snd t6.fst t6.snd.fst
      k (t7.fst, t7.snd.fst, t7.snd.snd.fst)
set_option maxRecDepth 100000 in
theorem culetref28_Dot.run (f_culetref28_Valid : Int → Int → Int → Int → Int → Int → (Bool)) (f_culetref28_Calc_Mul : Int → Int → Int → Int → Int → (Int × Int × Int)) (f_culetref28_Calc_only : Int → Int → Int → (Int × Int × Int × Int)) (f_culetref28_Calc_Add : Int → Int → Int → Int → Int → (Int × Int × Int)) (a0_0 : Int) (a0_1 : Int) (a0_2 : Int) (a0_3 : Int) (a0_4 : Int) (a0_5 : Int) (a1_0 : Int) (a1_1 : Int) (a1_2 : Int) (a1_3 : Int) (a1_4 : Int) (a1_5 : Int) : xfn Try.prog ⟨[(25, culetref28_Valid.sp f_culetref28_Valid), (49, culetref28_Calc_Mul.sp f_culetref28_Calc_Mul), (77, culetref28_Calc_only.sp f_culetref28_Calc_only), (78, culetref28_Calc_Add.sp f_culetref28_Calc_Add)], []⟩ [] 40 Try.f43 [.agg ⟨[.int .i64 a0_0, .int .i64 a0_1, .int .i64 a0_2, .int .i64 a0_3, .int .i64 a0_4, .int .i64 a0_5]⟩, .agg ⟨[.int .i64 a1_0, .int .i64 a1_1, .int .i64 a1_2, .int .i64 a1_3, .int .i64 a1_4, .int .i64 a1_5]⟩] [] = culetref28_Dot.K f_culetref28_Valid f_culetref28_Calc_Mul f_culetref28_Calc_only f_culetref28_Calc_Add a0_0 a0_1 a0_2 a0_3 a0_4 a0_5 a1_0 a1_1 a1_2 a1_3 a1_4 a1_5 (fun r => some (.tuple ⟨[.agg ⟨[.int .i64 r.1, .int .i64 r.2.1]⟩, .int .i64 r.2.2]⟩, [])) := by kernel_rfl
def culetref28_Dot (a0_0 : Int) (a0_1 : Int) (a0_2 : Int) (a0_3 : Int) (a0_4 : Int) (a0_5 : Int) (a1_0 : Int) (a1_1 : Int) (a1_2 : Int) (a1_3 : Int) (a1_4 : Int) (a1_5 : Int) : Int × Int × Int := culetref28_Dot.K culetref28_Valid culetref28_Calc_Mul culetref28_Calc_only culetref28_Calc_Add a0_0 a0_1 a0_2 a0_3 a0_4 a0_5 a1_0 a1_1 a1_2 a1_3 a1_4 a1_5 id
theorem culetref28_Dot.nat {R : Type} (f_culetref28_Valid : Int → Int → Int → Int → Int → Int → (Bool)) (f_culetref28_Calc_Mul : Int → Int → Int → Int → Int → (Int × Int × Int)) (f_culetref28_Calc_only : Int → Int → Int → (Int × Int × Int × Int)) (f_culetref28_Calc_Add : Int → Int → Int → Int → Int → (Int × Int × Int)) (a0_0 : Int) (a0_1 : Int) (a0_2 : Int) (a0_3 : Int) (a0_4 : Int) (a0_5 : Int) (a1_0 : Int) (a1_1 : Int) (a1_2 : Int) (a1_3 : Int) (a1_4 : Int) (a1_5 : Int) (k : Int × Int × Int → R) : culetref28_Dot.K f_culetref28_Valid f_culetref28_Calc_Mul f_culetref28_Calc_only f_culetref28_Calc_Add a0_0 a0_1 a0_2 a0_3 a0_4 a0_5 a1_0 a1_1 a1_2 a1_3 a1_4 a1_5 k = k (culetref28_Dot.K f_culetref28_Valid f_culetref28_Calc_Mul f_culetref28_Calc_only f_culetref28_Calc_Add a0_0 a0_1 a0_2 a0_3 a0_4 a0_5 a1_0 a1_1 a1_2 a1_3 a1_4 a1_5 id) := by
  simp only [culetref28_Dot.K, acond k, id_eq]
theorem culetref28_Dot.eq (a0 a1 a2 a3 a4 a5 b0 b1 b2 b3 b4 b5 : Int) : culetref28_Dot a0 a1 a2 a3 a4 a5 b0 b1 b2 b3 b4 b5 = o3 (ddot ((a0, a1), (a2, a3), (a4, a5)) ((b0, b1), (b2, b3), (b4, b5))) := by
  simp only [culetref28_Dot, culetref28_Dot.K, id_eq, culetref28_Valid.eq, culetref28_Calc_Mul.eq, culetref28_Calc_Add.eq, culetref28_Calc_only, culetref28_Calc_only.K, id_eq, ddot, mulR, addR]
  cases hV0 : VB ((a0, a1), (a2, a3), (a4, a5)) with
  | false =>
    simp only [hV0, st0, kr0, st70, t3_ok, bind_ok, bind_er, o7, o3, o2, o11, V2_mk, kp0, cond_true, cond_false, Bool.not_true, Bool.not_false, Bool.false_and, Bool.and_false, Bool.true_and, Bool.and_true, bne_self_eq_false, beq_self_eq_true, if_true, if_false]
  | true =>
    cases hV1 : VB ((b0, b1), (b2, b3), (b4, b5)) with
    | false =>
      simp only [hV0, hV1, st0, kr0, st70, t3_ok, bind_ok, bind_er, o7, o3, o2, o11, V2_mk, kp0, cond_true, cond_false, Bool.not_true, Bool.not_false, Bool.false_and, Bool.and_false, Bool.true_and, Bool.and_true, bne_self_eq_false, beq_self_eq_true, if_true, if_false]
    | true =>
      rcases t3c (imul a0 a1 b0 b1) with ⟨x0, x1, h0⟩ | ⟨x0, x1, e0, n0, h0⟩
      · simp only [hV0, hV1, h0, st0, kr0, st70, t3_ok, bind_ok, bind_er, o7, o3, o2, o11, V2_mk, kp0, cond_true, cond_false, Bool.not_true, Bool.not_false, Bool.false_and, Bool.and_false, Bool.true_and, Bool.and_true, bne_self_eq_false, beq_self_eq_true, if_true, if_false]
        rcases t3c (imul a2 a3 b2 b3) with ⟨y0, y1, h1⟩ | ⟨y0, y1, e1, n1, h1⟩
        · simp only [h1, st0, kr0, st70, t3_ok, bind_ok, bind_er, o7, o3, o2, o11, V2_mk, kp0, cond_true, cond_false, Bool.not_true, Bool.not_false, Bool.false_and, Bool.and_false, Bool.true_and, Bool.and_true, bne_self_eq_false, beq_self_eq_true, if_true, if_false]
          rcases t3c (imul a4 a5 b4 b5) with ⟨z0, z1, h2⟩ | ⟨z0, z1, e2, n2, h2⟩
          · simp only [h2, st0, kr0, st70, t3_ok, bind_ok, bind_er, o7, o3, o2, o11, V2_mk, kp0, cond_true, cond_false, Bool.not_true, Bool.not_false, Bool.false_and, Bool.and_false, Bool.true_and, Bool.and_true, bne_self_eq_false, beq_self_eq_true, if_true, if_false]
            rcases t3c (iadd x0 x1 y0 y1) with ⟨s0, s1, h3⟩ | ⟨s0, s1, e3, n3, h3⟩
            · simp only [h3, st0, kr0, st70, t3_ok, bind_ok, bind_er, o7, o3, o2, o11, V2_mk, kp0, cond_true, cond_false, Bool.not_true, Bool.not_false, Bool.false_and, Bool.and_false, Bool.true_and, Bool.and_true, bne_self_eq_false, beq_self_eq_true, if_true, if_false]
              rcases t3c (iadd s0 s1 z0 z1) with ⟨t0, t1, h4⟩ | ⟨t0, t1, e4, n4, h4⟩
              · simp only [h4, st0, kr0, st70, t3_ok, bind_ok, bind_er, o7, o3, o2, o11, V2_mk, kp0, cond_true, cond_false, Bool.not_true, Bool.not_false, Bool.false_and, Bool.and_false, Bool.true_and, Bool.and_true, bne_self_eq_false, beq_self_eq_true, if_true, if_false]
              · simp only [h4, stE n4, krE n4, st7E n4, t3_er n4, bne_of n4, beq_of n4, kpn _ n4, st0, kr0, st70, t3_ok, bind_ok, bind_er, o7, o3, o2, o11, V2_mk, kp0, cond_true, cond_false, Bool.not_true, Bool.not_false, Bool.false_and, Bool.and_false, Bool.true_and, Bool.and_true, bne_self_eq_false, beq_self_eq_true, if_true, if_false]
            · simp only [h3, stE n3, krE n3, st7E n3, t3_er n3, bne_of n3, beq_of n3, kpn _ n3, st0, kr0, st70, t3_ok, bind_ok, bind_er, o7, o3, o2, o11, V2_mk, kp0, cond_true, cond_false, Bool.not_true, Bool.not_false, Bool.false_and, Bool.and_false, Bool.true_and, Bool.and_true, bne_self_eq_false, beq_self_eq_true, if_true, if_false]
          · simp only [h2, stE n2, krE n2, st7E n2, t3_er n2, bne_of n2, beq_of n2, kpn _ n2, st0, kr0, st70, t3_ok, bind_ok, bind_er, o7, o3, o2, o11, V2_mk, kp0, cond_true, cond_false, Bool.not_true, Bool.not_false, Bool.false_and, Bool.and_false, Bool.true_and, Bool.and_true, bne_self_eq_false, beq_self_eq_true, if_true, if_false]
        · simp only [h1, stE n1, krE n1, st7E n1, t3_er n1, bne_of n1, beq_of n1, kpn _ n1, st0, kr0, st70, t3_ok, bind_ok, bind_er, o7, o3, o2, o11, V2_mk, kp0, cond_true, cond_false, Bool.not_true, Bool.not_false, Bool.false_and, Bool.and_false, Bool.true_and, Bool.and_true, bne_self_eq_false, beq_self_eq_true, if_true, if_false]
      · simp only [hV0, hV1, h0, stE n0, krE n0, st7E n0, t3_er n0, bne_of n0, beq_of n0, kpn _ n0, st0, kr0, st70, t3_ok, bind_ok, bind_er, o7, o3, o2, o11, V2_mk, kp0, cond_true, cond_false, Bool.not_true, Bool.not_false, Bool.false_and, Bool.and_false, Bool.true_and, Bool.and_true, bne_self_eq_false, beq_self_eq_true, if_true, if_false]
theorem culetref28_Dot.ok : SOK Try.prog 43 (culetref28_Dot.sp culetref28_Dot) := by
  refine sok_of (E := ⟨[(25, culetref28_Valid.sp culetref28_Valid), (49, culetref28_Calc_Mul.sp culetref28_Calc_Mul), (77, culetref28_Calc_only.sp culetref28_Calc_only), (78, culetref28_Calc_Add.sp culetref28_Calc_Add)], []⟩) ⟨(specs_cons culetref28_Valid.ok (specs_cons culetref28_Calc_Mul.ok (specs_cons culetref28_Calc_only.ok (specs_cons culetref28_Calc_Add.ok specs_nil)))), inl_nil, mixed_ok⟩ 40 Try.func43 (by decide) rfl no_loops fun vs bl v bl' h => ?_
  unfold culetref28_Dot.sp at h
  split at h
  · rename_i a0_0 a0_1 a0_2 a0_3 a0_4 a0_5 a1_0 a1_1 a1_2 a1_3 a1_4 a1_5
    simp only [Option.some.injEq, Prod.mk.injEq, true_and] at h
    obtain ⟨rfl, rfl⟩ := h
    refine ⟨?_, by simp [okV, Nat.blt], clo_spec 8 _ (by kernel_rfl), told_blk (by kernel_rfl)⟩
    refine (culetref28_Dot.run culetref28_Valid culetref28_Calc_Mul culetref28_Calc_only culetref28_Calc_Add a0_0 a0_1 a0_2 a0_3 a0_4 a0_5 a1_0 a1_1 a1_2 a1_3 a1_4 a1_5).trans ?_
    refine (culetref28_Dot.nat culetref28_Valid culetref28_Calc_Mul culetref28_Calc_only culetref28_Calc_Add a0_0 a0_1 a0_2 a0_3 a0_4 a0_5 a1_0 a1_1 a1_2 a1_3 a1_4 a1_5 _).trans ?_
    kernel_rfl
  · cases h

/-! ### culet/culetref27.Sign (44) -/
def culetref27_Sign.K {R : Type} (f_culetref27_Valid : Int → Int → (Bool)) (a0_0 : Int) (a0_1 : Int) (k : (Int) → R) : R :=
  let t0 := f_culetref27_Valid a0_0 a0_1
  bif !t0 then
    k (0)
  else
    bif decide (a0_0 > 0) then
      k (1)
    else
      bif decide (a0_1 < 0) then
        k (-1)
      else
        k (0)
set_option maxRecDepth 100000 in
theorem culetref27_Sign.run (f_culetref27_Valid : Int → Int → (Bool)) (a0_0 : Int) (a0_1 : Int) : xfn Try.prog ⟨[(26, culetref27_Valid.sp f_culetref27_Valid)], []⟩ [] 40 Try.f44 [.agg ⟨[.int .i64 a0_0, .int .i64 a0_1]⟩] [] = culetref27_Sign.K f_culetref27_Valid a0_0 a0_1 (fun r => some (.int .i64 r, [])) := by kernel_rfl
def culetref27_Sign (a0_0 : Int) (a0_1 : Int) : Int := culetref27_Sign.K culetref27_Valid a0_0 a0_1 id
theorem culetref27_Sign.nat {R : Type} (f_culetref27_Valid : Int → Int → (Bool)) (a0_0 : Int) (a0_1 : Int) (k : (Int) → R) : culetref27_Sign.K f_culetref27_Valid a0_0 a0_1 k = k (culetref27_Sign.K f_culetref27_Valid a0_0 a0_1 id) := by
  simp only [culetref27_Sign.K, acond k, id_eq]
theorem culetref27_Sign.eq (a b : Int) : culetref27_Sign a b = isg a b := by
  simp only [culetref27_Sign, culetref27_Sign.K, id_eq, culetref27_Valid.eq, isg]
  cases V a b with
  | false => rfl
  | true => by_cases h1 : 0 < a <;> by_cases h2 : b < 0 <;> simp [h1, h2]
theorem culetref27_Sign.ok : SOK Try.prog 44 (culetref27_Sign.sp culetref27_Sign) := by
  refine sok_of (E := ⟨[(26, culetref27_Valid.sp culetref27_Valid)], []⟩) ⟨(specs_cons culetref27_Valid.ok specs_nil), inl_nil, mixed_ok⟩ 40 Try.func44 (by decide) rfl no_loops fun vs bl v bl' h => ?_
  unfold culetref27_Sign.sp at h
  split at h
  · rename_i a0_0 a0_1
    simp only [Option.some.injEq, Prod.mk.injEq, true_and] at h
    obtain ⟨rfl, rfl⟩ := h
    refine ⟨?_, by simp [okV, Nat.blt], clo_spec 8 _ (by kernel_rfl), told_blk (by kernel_rfl)⟩
    refine (culetref27_Sign.run culetref27_Valid a0_0 a0_1).trans ?_
    refine (culetref27_Sign.nat culetref27_Valid a0_0 a0_1 _).trans ?_
    kernel_rfl
  · cases h

/-! ### culet/culetref27.Sqrt (62) -/
def culetref27_Sqrt.K {R : Type} (f_culetref27_Valid : Int → Int → (Bool)) (f_culetref27_checked : Int → Int → (Int × Int × Int)) (a0_0 : Int) (a0_1 : Int) (k : Int × Int × Int → R) : R :=
  let t0 := f_culetref27_Valid a0_0 a0_1
  bif !t0 then
    k (0, 0, 1)
  else
    bif decide (a0_0 < 0) then
      k (0, 0, 2)
    else
      bif decide (IntKind.i64.wrap (rroot.rt 32 (IntKind.i64.wrap (a0_1 * 16777216)) 0 * rroot.rt 32 (IntKind.i64.wrap (a0_1 * 16777216)) 0) < IntKind.i64.wrap (a0_1 * 16777216)) then
        let t1 := f_culetref27_checked (rroot.rt 32 (IntKind.i64.wrap (a0_0 * 16777216)) 0) (IntKind.i64.wrap (rroot.rt 32 (IntKind.i64.wrap (a0_1 * 16777216)) 0 + 1))
        k (t1.fst, t1.snd.fst, t1.snd.snd)
      else
        let t2 := f_culetref27_checked (rroot.rt 32 (IntKind.i64.wrap (a0_0 * 16777216)) 0) (rroot.rt 32 (IntKind.i64.wrap (a0_1 * 16777216)) 0)
        k (t2.fst, t2.snd.fst, t2.snd.snd)
set_option maxRecDepth 100000 in
theorem culetref27_Sqrt.run (f_culetref27_Valid : Int → Int → (Bool)) (f_culetref27_checked : Int → Int → (Int × Int × Int)) (a0_0 : Int) (a0_1 : Int) : xfn Try.prog ⟨[(26, culetref27_Valid.sp f_culetref27_Valid), (85, culetref27_checked.sp f_culetref27_checked), (88, culetref27_Root.sp)], []⟩ [] 40 Try.f62 [.agg ⟨[.int .i64 a0_0, .int .i64 a0_1]⟩] [] = culetref27_Sqrt.K f_culetref27_Valid f_culetref27_checked a0_0 a0_1 (fun r => some (.tuple ⟨[.agg ⟨[.int .i64 r.1, .int .i64 r.2.1]⟩, .int .i64 r.2.2]⟩, [])) := by kernel_rfl
def culetref27_Sqrt (a0_0 : Int) (a0_1 : Int) : Int × Int × Int := culetref27_Sqrt.K culetref27_Valid culetref27_checked a0_0 a0_1 id
theorem culetref27_Sqrt.nat {R : Type} (f_culetref27_Valid : Int → Int → (Bool)) (f_culetref27_checked : Int → Int → (Int × Int × Int)) (a0_0 : Int) (a0_1 : Int) (k : Int × Int × Int → R) : culetref27_Sqrt.K f_culetref27_Valid f_culetref27_checked a0_0 a0_1 k = k (culetref27_Sqrt.K f_culetref27_Valid f_culetref27_checked a0_0 a0_1 id) := by
  simp only [culetref27_Sqrt.K, acond k, id_eq]
theorem rroot_rts : ∀ (k : Nat) (n r : Int), 0 ≤ n → n ≤ 18014398509481984 → 0 ≤ r → rroot.rt k n r = rts k n r
  | 0, n, r, _, _, _ => rfl
  | k + 1, n, r, h0, h1, h2 => by
    have hp : (0 : Int) < 2 ^ k := pow_nonneg_int k
    simp only [rroot.rt, rts]
    by_cases hc : (r + 2 ^ k) * (r + 2 ^ k) ≤ n
    · have hb : r + 2 ^ k ≤ 134217728 := le_of_sq (by omega) (by omega)
      rw [if_pos hc, if_pos ⟨by omega, hc⟩]
      exact rroot_rts k n _ h0 h1 (by omega)
    · rw [if_neg hc, if_neg (fun h => hc h.2)]
      exact rroot_rts k n _ h0 h1 h2
theorem rroot_sqt {n : Int} (h0 : 0 ≤ n) (h : n ≤ 18014398509481984) : rroot.rt 32 n 0 = sqt n := rroot_rts 32 n 0 h0 h (by omega)
theorem culetref27_Sqrt.eq (a b : Int) : culetref27_Sqrt a b = isr a b := by
  simp only [culetref27_Sqrt, culetref27_Sqrt.K, id_eq, culetref27_Valid.eq, isr]
  cases hv : V a b with
  | false => rfl
  | true =>
    have := V_iff.1 hv
    by_cases ha : a < 0
    · simp only [ha, decide_true, Bool.not_true, cond_false, cond_true, if_true]
    · have w1 : IntKind.i64.wrap (a * 16777216) = a * 16777216 := w64 (by omega) (by omega)
      have w2 : IntKind.i64.wrap (b * 16777216) = b * 16777216 := w64 (by omega) (by omega)
      have r1 := rroot_sqt (n := a * 16777216) (by omega) (by omega)
      have r2 := rroot_sqt (n := b * 16777216) (by omega) (by omega)
      have s2 := sqt_spec (n := b * 16777216) (by omega) (by omega)
      have g := isr_range (a := a) (b := b) (by omega) (by omega) (by omega)
      have g2 := (sqc_spec (n := b * 16777216) (by omega) (by omega)).2.2.2
      simp only [ha, decide_false, Bool.not_true, cond_false, cond_true, if_false, w1, w2, r1, r2]
      have g3 := sq_nonneg (sqt (b * 16777216))
      rw [w64 (n := sqt (b * 16777216) * sqt (b * 16777216)) (by omega) (by omega)]
      by_cases hc : sqt (b * 16777216) * sqt (b * 16777216) < b * 16777216
      · have e : sqc (b * 16777216) = sqt (b * 16777216) + 1 := by rw [sqc, if_pos hc]
        simp only [hc, decide_true, cond_true]
        rw [w64 (by omega) (by omega), ← e, culetref27_checked.eq, chk_of (by omega) (by omega) (by omega)]
      · have e : sqc (b * 16777216) = sqt (b * 16777216) := by rw [sqc, if_neg hc]
        simp only [hc, decide_false, cond_false]
        rw [← e, culetref27_checked.eq, chk_of (by omega) (by omega) (by omega)]
theorem culetref27_Sqrt.ok : SOK Try.prog 62 (culetref27_Sqrt.sp culetref27_Sqrt) := by
  refine sok_of (E := ⟨[(26, culetref27_Valid.sp culetref27_Valid), (85, culetref27_checked.sp culetref27_checked), (88, culetref27_Root.sp)], []⟩) ⟨(specs_cons culetref27_Valid.ok (specs_cons culetref27_checked.ok (specs_cons culetref27_Root.ok specs_nil))), inl_nil, mixed_ok⟩ 40 Try.func62 (by decide) rfl no_loops fun vs bl v bl' h => ?_
  unfold culetref27_Sqrt.sp at h
  split at h
  · rename_i a0_0 a0_1
    simp only [Option.some.injEq, Prod.mk.injEq, true_and] at h
    obtain ⟨rfl, rfl⟩ := h
    refine ⟨?_, by simp [okV, Nat.blt], clo_spec 8 _ (by kernel_rfl), told_blk (by kernel_rfl)⟩
    refine (culetref27_Sqrt.run culetref27_Valid culetref27_checked a0_0 a0_1).trans ?_
    refine (culetref27_Sqrt.nat culetref27_Valid culetref27_checked a0_0 a0_1 _).trans ?_
    kernel_rfl
  · cases h

/-! ### (*culet/culetref28.Calc).Sqrt (45) -/
def culetref28_Calc_Sqrt.K {R : Type} (f_culetref27_Sqrt : Int → Int → (Int × Int × Int)) (f_culetref28_Calc_kept : Int → Int → Int → Int → (Int × Int × Int)) (s0_0 : Int) (a1_0 : Int) (a1_1 : Int) (k : Int × Int × Int → R) : R :=
  let t0 := f_culetref27_Sqrt a1_0 a1_1
  let t1 := f_culetref28_Calc_kept s0_0 t0.fst t0.snd.fst t0.snd.snd
  k (t1.fst, t1.snd.fst, t1.snd.snd)
set_option maxRecDepth 100000 in
theorem culetref28_Calc_Sqrt.run (f_culetref27_Sqrt : Int → Int → (Int × Int × Int)) (f_culetref28_Calc_kept : Int → Int → Int → Int → (Int × Int × Int)) (s0_0 : Int) (a1_0 : Int) (a1_1 : Int) : xfn Try.prog ⟨[(62, culetref27_Sqrt.sp f_culetref27_Sqrt), (79, culetref28_Calc_kept.sp f_culetref28_Calc_kept)], []⟩ [] 40 Try.f45 [.pointer (some ⟨0, 0, none⟩), .agg ⟨[.int .i64 a1_0, .int .i64 a1_1]⟩] [.cs [.int .i64 s0_0] 71] = culetref28_Calc_Sqrt.K f_culetref27_Sqrt f_culetref28_Calc_kept s0_0 a1_0 a1_1 (fun r => some (.agg ⟨[.int .i64 r.1, .int .i64 r.2.1]⟩, [.cs [.int .i64 r.2.2] 71])) := by kernel_rfl
def culetref28_Calc_Sqrt (s0_0 : Int) (a1_0 : Int) (a1_1 : Int) : Int × Int × Int := culetref28_Calc_Sqrt.K culetref27_Sqrt culetref28_Calc_kept s0_0 a1_0 a1_1 id
theorem culetref28_Calc_Sqrt.nat {R : Type} (f_culetref27_Sqrt : Int → Int → (Int × Int × Int)) (f_culetref28_Calc_kept : Int → Int → Int → Int → (Int × Int × Int)) (s0_0 : Int) (a1_0 : Int) (a1_1 : Int) (k : Int × Int × Int → R) : culetref28_Calc_Sqrt.K f_culetref27_Sqrt f_culetref28_Calc_kept s0_0 a1_0 a1_1 k = k (culetref28_Calc_Sqrt.K f_culetref27_Sqrt f_culetref28_Calc_kept s0_0 a1_0 a1_1 id) := by
  simp only [culetref28_Calc_Sqrt.K, acond k, id_eq]
theorem culetref28_Calc_Sqrt.eq (s a b : Int) : culetref28_Calc_Sqrt s a b = kr s (isr a b) := by
  simp only [culetref28_Calc_Sqrt, culetref28_Calc_Sqrt.K, id_eq, culetref27_Sqrt.eq, kept_eq, kr]
theorem culetref28_Calc_Sqrt.ok : SOK Try.prog 45 (culetref28_Calc_Sqrt.sp culetref28_Calc_Sqrt) := by
  refine sok_of (E := ⟨[(62, culetref27_Sqrt.sp culetref27_Sqrt), (79, culetref28_Calc_kept.sp culetref28_Calc_kept)], []⟩) ⟨(specs_cons culetref27_Sqrt.ok (specs_cons culetref28_Calc_kept.ok specs_nil)), inl_nil, mixed_ok⟩ 40 Try.func45 (by decide) rfl no_loops fun vs bl v bl' h => ?_
  unfold culetref28_Calc_Sqrt.sp at h
  split at h
  · rename_i a1_0 a1_1 s0_0
    simp only [Option.some.injEq, Prod.mk.injEq, true_and] at h
    obtain ⟨rfl, rfl⟩ := h
    refine ⟨?_, by simp [okV, Nat.blt], clo_spec 8 _ (by kernel_rfl), told_blk (by kernel_rfl)⟩
    refine (culetref28_Calc_Sqrt.run culetref27_Sqrt culetref28_Calc_kept s0_0 a1_0 a1_1).trans ?_
    refine (culetref28_Calc_Sqrt.nat culetref27_Sqrt culetref28_Calc_kept s0_0 a1_0 a1_1 _).trans ?_
    kernel_rfl
  · cases h

/-! ### culet/culetref27.Neg (80) -/
def culetref27_Neg.K {R : Type} (f_culetref27_Valid : Int → Int → (Bool)) (a0_0 : Int) (a0_1 : Int) (k : Int × Int × Int → R) : R :=
  let t0 := f_culetref27_Valid a0_0 a0_1
  bif !t0 then
    k (0, 0, 1)
  else
    k (IntKind.i64.wrap (0 - a0_1), IntKind.i64.wrap (0 - a0_0), 0)
set_option maxRecDepth 100000 in
theorem culetref27_Neg.run (f_culetref27_Valid : Int → Int → (Bool)) (a0_0 : Int) (a0_1 : Int) : xfn Try.prog ⟨[(26, culetref27_Valid.sp f_culetref27_Valid)], []⟩ [] 40 Try.f80 [.agg ⟨[.int .i64 a0_0, .int .i64 a0_1]⟩] [] = culetref27_Neg.K f_culetref27_Valid a0_0 a0_1 (fun r => some (.tuple ⟨[.agg ⟨[.int .i64 r.1, .int .i64 r.2.1]⟩, .int .i64 r.2.2]⟩, [])) := by kernel_rfl
def culetref27_Neg (a0_0 : Int) (a0_1 : Int) : Int × Int × Int := culetref27_Neg.K culetref27_Valid a0_0 a0_1 id
theorem culetref27_Neg.nat {R : Type} (f_culetref27_Valid : Int → Int → (Bool)) (a0_0 : Int) (a0_1 : Int) (k : Int × Int × Int → R) : culetref27_Neg.K f_culetref27_Valid a0_0 a0_1 k = k (culetref27_Neg.K f_culetref27_Valid a0_0 a0_1 id) := by
  simp only [culetref27_Neg.K, acond k, id_eq]
theorem culetref27_Neg.eq (a b : Int) : culetref27_Neg a b = ineg a b := by
  simp only [culetref27_Neg, culetref27_Neg.K, id_eq, culetref27_Valid.eq, ineg]
  cases hv : V a b with
  | false => rfl
  | true =>
    have := V_iff.1 hv
    rw [Int.zero_sub, Int.zero_sub, w64 (by omega) (by omega), w64 (by omega) (by omega)]
    rfl
theorem culetref27_Neg.ok : SOK Try.prog 80 (culetref27_Neg.sp culetref27_Neg) := by
  refine sok_of (E := ⟨[(26, culetref27_Valid.sp culetref27_Valid)], []⟩) ⟨(specs_cons culetref27_Valid.ok specs_nil), inl_nil, mixed_ok⟩ 40 Try.func80 (by decide) rfl no_loops fun vs bl v bl' h => ?_
  unfold culetref27_Neg.sp at h
  split at h
  · rename_i a0_0 a0_1
    simp only [Option.some.injEq, Prod.mk.injEq, true_and] at h
    obtain ⟨rfl, rfl⟩ := h
    refine ⟨?_, by simp [okV, Nat.blt], clo_spec 8 _ (by kernel_rfl), told_blk (by kernel_rfl)⟩
    refine (culetref27_Neg.run culetref27_Valid a0_0 a0_1).trans ?_
    refine (culetref27_Neg.nat culetref27_Valid a0_0 a0_1 _).trans ?_
    kernel_rfl
  · cases h

/-! ### (*culet/culetref28.Calc).Neg (46) -/
def culetref28_Calc_Neg.K {R : Type} (f_culetref28_Calc_kept : Int → Int → Int → Int → (Int × Int × Int)) (f_culetref27_Neg : Int → Int → (Int × Int × Int)) (s0_0 : Int) (a1_0 : Int) (a1_1 : Int) (k : Int × Int × Int → R) : R :=
  let t0 := f_culetref27_Neg a1_0 a1_1
  let t1 := f_culetref28_Calc_kept s0_0 t0.fst t0.snd.fst t0.snd.snd
  k (t1.fst, t1.snd.fst, t1.snd.snd)
set_option maxRecDepth 100000 in
theorem culetref28_Calc_Neg.run (f_culetref28_Calc_kept : Int → Int → Int → Int → (Int × Int × Int)) (f_culetref27_Neg : Int → Int → (Int × Int × Int)) (s0_0 : Int) (a1_0 : Int) (a1_1 : Int) : xfn Try.prog ⟨[(79, culetref28_Calc_kept.sp f_culetref28_Calc_kept), (80, culetref27_Neg.sp f_culetref27_Neg)], []⟩ [] 40 Try.f46 [.pointer (some ⟨0, 0, none⟩), .agg ⟨[.int .i64 a1_0, .int .i64 a1_1]⟩] [.cs [.int .i64 s0_0] 71] = culetref28_Calc_Neg.K f_culetref28_Calc_kept f_culetref27_Neg s0_0 a1_0 a1_1 (fun r => some (.agg ⟨[.int .i64 r.1, .int .i64 r.2.1]⟩, [.cs [.int .i64 r.2.2] 71])) := by kernel_rfl
def culetref28_Calc_Neg (s0_0 : Int) (a1_0 : Int) (a1_1 : Int) : Int × Int × Int := culetref28_Calc_Neg.K culetref28_Calc_kept culetref27_Neg s0_0 a1_0 a1_1 id
theorem culetref28_Calc_Neg.nat {R : Type} (f_culetref28_Calc_kept : Int → Int → Int → Int → (Int × Int × Int)) (f_culetref27_Neg : Int → Int → (Int × Int × Int)) (s0_0 : Int) (a1_0 : Int) (a1_1 : Int) (k : Int × Int × Int → R) : culetref28_Calc_Neg.K f_culetref28_Calc_kept f_culetref27_Neg s0_0 a1_0 a1_1 k = k (culetref28_Calc_Neg.K f_culetref28_Calc_kept f_culetref27_Neg s0_0 a1_0 a1_1 id) := by
  simp only [culetref28_Calc_Neg.K, acond k, id_eq]
theorem culetref28_Calc_Neg.eq (s a b : Int) : culetref28_Calc_Neg s a b = kr s (ineg a b) := by
  simp only [culetref28_Calc_Neg, culetref28_Calc_Neg.K, id_eq, culetref27_Neg.eq, kept_eq, kr]
theorem culetref28_Calc_Neg.ok : SOK Try.prog 46 (culetref28_Calc_Neg.sp culetref28_Calc_Neg) := by
  refine sok_of (E := ⟨[(79, culetref28_Calc_kept.sp culetref28_Calc_kept), (80, culetref27_Neg.sp culetref27_Neg)], []⟩) ⟨(specs_cons culetref28_Calc_kept.ok (specs_cons culetref27_Neg.ok specs_nil)), inl_nil, mixed_ok⟩ 40 Try.func46 (by decide) rfl no_loops fun vs bl v bl' h => ?_
  unfold culetref28_Calc_Neg.sp at h
  split at h
  · rename_i a1_0 a1_1 s0_0
    simp only [Option.some.injEq, Prod.mk.injEq, true_and] at h
    obtain ⟨rfl, rfl⟩ := h
    refine ⟨?_, by simp [okV, Nat.blt], clo_spec 8 _ (by kernel_rfl), told_blk (by kernel_rfl)⟩
    refine (culetref28_Calc_Neg.run culetref28_Calc_kept culetref27_Neg s0_0 a1_0 a1_1).trans ?_
    refine (culetref28_Calc_Neg.nat culetref28_Calc_kept culetref27_Neg s0_0 a1_0 a1_1 _).trans ?_
    kernel_rfl
  · cases h

/-! ### (*culet/culetref28.Calc).done (81) -/
def culetref28_Calc_done.K {R : Type} (s0_0 : Int) (a1_0 : Int) (a1_1 : Int) (a1_2 : Int) (a1_3 : Int) (a1_4 : Int) (a1_5 : Int) (k : Int × Int × Int × Int × Int × Int × Int × Int → R) : R :=
  bif s0_0 != 0 then
    k (0, 0, 0, 0, 0, 0, s0_0, s0_0)
  else
    k (a1_0, a1_1, a1_2, a1_3, a1_4, a1_5, 0, s0_0)
set_option maxRecDepth 100000 in
theorem culetref28_Calc_done.run (s0_0 : Int) (a1_0 : Int) (a1_1 : Int) (a1_2 : Int) (a1_3 : Int) (a1_4 : Int) (a1_5 : Int) : xfn Try.prog ⟨[], []⟩ [] 40 Try.f81 [.pointer (some ⟨0, 0, none⟩), .agg ⟨[.int .i64 a1_0, .int .i64 a1_1, .int .i64 a1_2, .int .i64 a1_3, .int .i64 a1_4, .int .i64 a1_5]⟩] [.cs [.int .i64 s0_0] 71] = culetref28_Calc_done.K s0_0 a1_0 a1_1 a1_2 a1_3 a1_4 a1_5 (fun r => some (.tuple ⟨[.agg ⟨[.int .i64 r.1, .int .i64 r.2.1, .int .i64 r.2.2.1, .int .i64 r.2.2.2.1, .int .i64 r.2.2.2.2.1, .int .i64 r.2.2.2.2.2.1]⟩, .int .i64 r.2.2.2.2.2.2.1]⟩, [.cs [.int .i64 r.2.2.2.2.2.2.2] 71])) := by kernel_rfl
def culetref28_Calc_done (s0_0 : Int) (a1_0 : Int) (a1_1 : Int) (a1_2 : Int) (a1_3 : Int) (a1_4 : Int) (a1_5 : Int) : Int × Int × Int × Int × Int × Int × Int × Int := culetref28_Calc_done.K s0_0 a1_0 a1_1 a1_2 a1_3 a1_4 a1_5 id
theorem culetref28_Calc_done.nat {R : Type} (s0_0 : Int) (a1_0 : Int) (a1_1 : Int) (a1_2 : Int) (a1_3 : Int) (a1_4 : Int) (a1_5 : Int) (k : Int × Int × Int × Int × Int × Int × Int × Int → R) : culetref28_Calc_done.K s0_0 a1_0 a1_1 a1_2 a1_3 a1_4 a1_5 k = k (culetref28_Calc_done.K s0_0 a1_0 a1_1 a1_2 a1_3 a1_4 a1_5 id) := by
  simp only [culetref28_Calc_done.K, acond k, id_eq]
theorem culetref28_Calc_done.ok : SOK Try.prog 81 (culetref28_Calc_done.sp culetref28_Calc_done) := by
  refine sok_of (E := ⟨[], []⟩) ⟨specs_nil, inl_nil, mixed_ok⟩ 40 Try.func81 (by decide) rfl no_loops fun vs bl v bl' h => ?_
  unfold culetref28_Calc_done.sp at h
  split at h
  · rename_i a1_0 a1_1 a1_2 a1_3 a1_4 a1_5 s0_0
    simp only [Option.some.injEq, Prod.mk.injEq, true_and] at h
    obtain ⟨rfl, rfl⟩ := h
    refine ⟨?_, by simp [okV, Nat.blt], clo_spec 8 _ (by kernel_rfl), told_blk (by kernel_rfl)⟩
    refine (culetref28_Calc_done.run s0_0 a1_0 a1_1 a1_2 a1_3 a1_4 a1_5).trans ?_
    refine (culetref28_Calc_done.nat s0_0 a1_0 a1_1 a1_2 a1_3 a1_4 a1_5 _).trans ?_
    kernel_rfl
  · cases h

/-! ### culet/culetref28.Scale (47) -/
def culetref28_Scale.K {R : Type} (f_culetref28_Valid : Int → Int → Int → Int → Int → Int → (Bool)) (f_culetref27_Valid : Int → Int → (Bool)) (f_culetref28_Calc_Mul : Int → Int → Int → Int → Int → (Int × Int × Int)) (f_culetref28_Calc_done : Int → Int → Int → Int → Int → Int → Int → (Int × Int × Int × Int × Int × Int × Int × Int)) (a0_0 : Int) (a0_1 : Int) (a0_2 : Int) (a0_3 : Int) (a0_4 : Int) (a0_5 : Int) (a1_0 : Int) (a1_1 : Int) (k : Int × Int × Int × Int × Int × Int × Int → R) : R :=
  let t0 := f_culetref28_Valid a0_0 a0_1 a0_2 a0_3 a0_4 a0_5
  bif !t0 then
    k (0, 0, 0, 0, 0, 0, 1)
  else
    let t1 := f_culetref27_Valid a1_0 a1_1
    bif !t1 then
      k (0, 0, 0, 0, 0, 0, 1)
    else
      let t2 := f_culetref28_Calc_Mul 0 a0_0 a0_1 a1_0 a1_1
      let t3 := f_culetref28_Calc_Mul t2.snd.snd a0_2 a0_3 a1_0 a1_1
      let t4 := f_culetref28_Calc_Mul t3.snd.snd a0_4 a0_5 a1_0 a1_1
      let t5 := f_culetref28_Calc_done t4.snd.snd t2.fst t2.snd.fst t3.fst t3.snd.fst t4.fst t4.snd.fst
      k (t5.fst, t5.snd.fst, t5.snd.snd.fst, t5.snd.snd.snd.fst, t5.snd.snd.snd.snd.fst, t5.snd.snd.snd.snd.snd.fst, t5.snd.snd.snd.snd.snd.snd.fst)
set_option maxRecDepth 100000 in
theorem culetref28_Scale.run (f_culetref28_Valid : Int → Int → Int → Int → Int → Int → (Bool)) (f_culetref27_Valid : Int → Int → (Bool)) (f_culetref28_Calc_Mul : Int → Int → Int → Int → Int → (Int × Int × Int)) (f_culetref28_Calc_done : Int → Int → Int → Int → Int → Int → Int → (Int × Int × Int × Int × Int × Int × Int × Int)) (a0_0 : Int) (a0_1 : Int) (a0_2 : Int) (a0_3 : Int) (a0_4 : Int) (a0_5 : Int) (a1_0 : Int) (a1_1 : Int) : xfn Try.prog ⟨[(25, culetref28_Valid.sp f_culetref28_Valid), (26, culetref27_Valid.sp f_culetref27_Valid), (49, culetref28_Calc_Mul.sp f_culetref28_Calc_Mul), (81, culetref28_Calc_done.sp f_culetref28_Calc_done)], []⟩ [] 40 Try.f47 [.agg ⟨[.int .i64 a0_0, .int .i64 a0_1, .int .i64 a0_2, .int .i64 a0_3, .int .i64 a0_4, .int .i64 a0_5]⟩, .agg ⟨[.int .i64 a1_0, .int .i64 a1_1]⟩] [] = culetref28_Scale.K f_culetref28_Valid f_culetref27_Valid f_culetref28_Calc_Mul f_culetref28_Calc_done a0_0 a0_1 a0_2 a0_3 a0_4 a0_5 a1_0 a1_1 (fun r => some (.tuple ⟨[.agg ⟨[.int .i64 r.1, .int .i64 r.2.1, .int .i64 r.2.2.1, .int .i64 r.2.2.2.1, .int .i64 r.2.2.2.2.1, .int .i64 r.2.2.2.2.2.1]⟩, .int .i64 r.2.2.2.2.2.2]⟩, [])) := by kernel_rfl
def culetref28_Scale (a0_0 : Int) (a0_1 : Int) (a0_2 : Int) (a0_3 : Int) (a0_4 : Int) (a0_5 : Int) (a1_0 : Int) (a1_1 : Int) : Int × Int × Int × Int × Int × Int × Int := culetref28_Scale.K culetref28_Valid culetref27_Valid culetref28_Calc_Mul culetref28_Calc_done a0_0 a0_1 a0_2 a0_3 a0_4 a0_5 a1_0 a1_1 id
theorem culetref28_Scale.nat {R : Type} (f_culetref28_Valid : Int → Int → Int → Int → Int → Int → (Bool)) (f_culetref27_Valid : Int → Int → (Bool)) (f_culetref28_Calc_Mul : Int → Int → Int → Int → Int → (Int × Int × Int)) (f_culetref28_Calc_done : Int → Int → Int → Int → Int → Int → Int → (Int × Int × Int × Int × Int × Int × Int × Int)) (a0_0 : Int) (a0_1 : Int) (a0_2 : Int) (a0_3 : Int) (a0_4 : Int) (a0_5 : Int) (a1_0 : Int) (a1_1 : Int) (k : Int × Int × Int × Int × Int × Int × Int → R) : culetref28_Scale.K f_culetref28_Valid f_culetref27_Valid f_culetref28_Calc_Mul f_culetref28_Calc_done a0_0 a0_1 a0_2 a0_3 a0_4 a0_5 a1_0 a1_1 k = k (culetref28_Scale.K f_culetref28_Valid f_culetref27_Valid f_culetref28_Calc_Mul f_culetref28_Calc_done a0_0 a0_1 a0_2 a0_3 a0_4 a0_5 a1_0 a1_1 id) := by
  simp only [culetref28_Scale.K, acond k, id_eq]
theorem culetref28_Scale.eq (a0 a1 a2 a3 a4 a5 r0 r1 : Int) : culetref28_Scale a0 a1 a2 a3 a4 a5 r0 r1 = o7 (dscale ((a0, a1), (a2, a3), (a4, a5)) (r0, r1)) := by
  simp only [culetref28_Scale, culetref28_Scale.K, id_eq, culetref28_Valid.eq, culetref28_Calc_Mul.eq, culetref27_Valid.eq, culetref28_Calc_done, culetref28_Calc_done.K, id_eq, dscale, dzip, mulR, V2]
  cases hV0 : VB ((a0, a1), (a2, a3), (a4, a5)) with
  | false =>
    simp only [hV0, st0, kr0, st70, t3_ok, bind_ok, bind_er, o7, o3, o2, o11, V2_mk, kp0, cond_true, cond_false, Bool.not_true, Bool.not_false, Bool.false_and, Bool.and_false, Bool.true_and, Bool.and_true, bne_self_eq_false, beq_self_eq_true, if_true, if_false]
  | true =>
    cases hV1 : V r0 r1 with
    | false =>
      simp only [hV0, hV1, st0, kr0, st70, t3_ok, bind_ok, bind_er, o7, o3, o2, o11, V2_mk, kp0, cond_true, cond_false, Bool.not_true, Bool.not_false, Bool.false_and, Bool.and_false, Bool.true_and, Bool.and_true, bne_self_eq_false, beq_self_eq_true, if_true, if_false]
    | true =>
      rcases t3c (imul a0 a1 r0 r1) with ⟨x0, x1, h0⟩ | ⟨x0, x1, e0, n0, h0⟩
      · simp only [hV0, hV1, h0, st0, kr0, st70, t3_ok, bind_ok, bind_er, o7, o3, o2, o11, V2_mk, kp0, cond_true, cond_false, Bool.not_true, Bool.not_false, Bool.false_and, Bool.and_false, Bool.true_and, Bool.and_true, bne_self_eq_false, beq_self_eq_true, if_true, if_false]
        rcases t3c (imul a2 a3 r0 r1) with ⟨y0, y1, h1⟩ | ⟨y0, y1, e1, n1, h1⟩
        · simp only [h1, st0, kr0, st70, t3_ok, bind_ok, bind_er, o7, o3, o2, o11, V2_mk, kp0, cond_true, cond_false, Bool.not_true, Bool.not_false, Bool.false_and, Bool.and_false, Bool.true_and, Bool.and_true, bne_self_eq_false, beq_self_eq_true, if_true, if_false]
          rcases t3c (imul a4 a5 r0 r1) with ⟨z0, z1, h2⟩ | ⟨z0, z1, e2, n2, h2⟩
          · simp only [h2, st0, kr0, st70, t3_ok, bind_ok, bind_er, o7, o3, o2, o11, V2_mk, kp0, cond_true, cond_false, Bool.not_true, Bool.not_false, Bool.false_and, Bool.and_false, Bool.true_and, Bool.and_true, bne_self_eq_false, beq_self_eq_true, if_true, if_false]
          · simp only [h2, stE n2, krE n2, st7E n2, t3_er n2, bne_of n2, beq_of n2, kpn _ n2, st0, kr0, st70, t3_ok, bind_ok, bind_er, o7, o3, o2, o11, V2_mk, kp0, cond_true, cond_false, Bool.not_true, Bool.not_false, Bool.false_and, Bool.and_false, Bool.true_and, Bool.and_true, bne_self_eq_false, beq_self_eq_true, if_true, if_false]
        · simp only [h1, stE n1, krE n1, st7E n1, t3_er n1, bne_of n1, beq_of n1, kpn _ n1, st0, kr0, st70, t3_ok, bind_ok, bind_er, o7, o3, o2, o11, V2_mk, kp0, cond_true, cond_false, Bool.not_true, Bool.not_false, Bool.false_and, Bool.and_false, Bool.true_and, Bool.and_true, bne_self_eq_false, beq_self_eq_true, if_true, if_false]
      · simp only [hV0, hV1, h0, stE n0, krE n0, st7E n0, t3_er n0, bne_of n0, beq_of n0, kpn _ n0, st0, kr0, st70, t3_ok, bind_ok, bind_er, o7, o3, o2, o11, V2_mk, kp0, cond_true, cond_false, Bool.not_true, Bool.not_false, Bool.false_and, Bool.and_false, Bool.true_and, Bool.and_true, bne_self_eq_false, beq_self_eq_true, if_true, if_false]
theorem culetref28_Scale.ok : SOK Try.prog 47 (culetref28_Scale.sp culetref28_Scale) := by
  refine sok_of (E := ⟨[(25, culetref28_Valid.sp culetref28_Valid), (26, culetref27_Valid.sp culetref27_Valid), (49, culetref28_Calc_Mul.sp culetref28_Calc_Mul), (81, culetref28_Calc_done.sp culetref28_Calc_done)], []⟩) ⟨(specs_cons culetref28_Valid.ok (specs_cons culetref27_Valid.ok (specs_cons culetref28_Calc_Mul.ok (specs_cons culetref28_Calc_done.ok specs_nil)))), inl_nil, mixed_ok⟩ 40 Try.func47 (by decide) rfl no_loops fun vs bl v bl' h => ?_
  unfold culetref28_Scale.sp at h
  split at h
  · rename_i a0_0 a0_1 a0_2 a0_3 a0_4 a0_5 a1_0 a1_1
    simp only [Option.some.injEq, Prod.mk.injEq, true_and] at h
    obtain ⟨rfl, rfl⟩ := h
    refine ⟨?_, by simp [okV, Nat.blt], clo_spec 8 _ (by kernel_rfl), told_blk (by kernel_rfl)⟩
    refine (culetref28_Scale.run culetref28_Valid culetref27_Valid culetref28_Calc_Mul culetref28_Calc_done a0_0 a0_1 a0_2 a0_3 a0_4 a0_5 a1_0 a1_1).trans ?_
    refine (culetref28_Scale.nat culetref28_Valid culetref27_Valid culetref28_Calc_Mul culetref28_Calc_done a0_0 a0_1 a0_2 a0_3 a0_4 a0_5 a1_0 a1_1 _).trans ?_
    kernel_rfl
  · cases h

/-! ### culet/culetref28.Add (50) -/
def culetref28_Add.K {R : Type} (f_culetref28_Valid : Int → Int → Int → Int → Int → Int → (Bool)) (f_culetref28_Calc_Add : Int → Int → Int → Int → Int → (Int × Int × Int)) (f_culetref28_Calc_done : Int → Int → Int → Int → Int → Int → Int → (Int × Int × Int × Int × Int × Int × Int × Int)) (a0_0 : Int) (a0_1 : Int) (a0_2 : Int) (a0_3 : Int) (a0_4 : Int) (a0_5 : Int) (a1_0 : Int) (a1_1 : Int) (a1_2 : Int) (a1_3 : Int) (a1_4 : Int) (a1_5 : Int) (k : Int × Int × Int × Int × Int × Int × Int → R) : R :=
  let t0 := f_culetref28_Valid a0_0 a0_1 a0_2 a0_3 a0_4 a0_5
  bif !t0 then
    k (0, 0, 0, 0, 0, 0, 1)
  else
    let t1 := f_culetref28_Valid a1_0 a1_1 a1_2 a1_3 a1_4 a1_5
    bif !t1 then
      k (0, 0, 0, 0, 0, 0, 1)
    else
      let t2 := f_culetref28_Calc_Add 0 a0_0 a0_1 a1_0 a1_1
      let t3 := f_culetref28_Calc_Add t2.snd.snd a0_2 a0_3 a1_2 a1_3
      let t4 := f_culetref28_Calc_Add t3.snd.snd a0_4 a0_5 a1_4 a1_5
      let t5 := f_culetref28_Calc_done t4.snd.snd t2.fst t2.snd.fst t3.fst t3.snd.fst t4.fst t4.snd.fst
      k (t5.fst, t5.snd.fst, t5.snd.snd.fst, t5.snd.snd.snd.fst, t5.snd.snd.snd.snd.fst, t5.snd.snd.snd.snd.snd.fst, t5.snd.snd.snd.snd.snd.snd.fst)
set_option maxRecDepth 100000 in
theorem culetref28_Add.run (f_culetref28_Valid : Int → Int → Int → Int → Int → Int → (Bool)) (f_culetref28_Calc_Add : Int → Int → Int → Int → Int → (Int × Int × Int)) (f_culetref28_Calc_done : Int → Int → Int → Int → Int → Int → Int → (Int × Int × Int × Int × Int × Int × Int × Int)) (a0_0 : Int) (a0_1 : Int) (a0_2 : Int) (a0_3 : Int) (a0_4 : Int) (a0_5 : Int) (a1_0 : Int) (a1_1 : Int) (a1_2 : Int) (a1_3 : Int) (a1_4 : Int) (a1_5 : Int) : xfn Try.prog ⟨[(25, culetref28_Valid.sp f_culetref28_Valid), (78, culetref28_Calc_Add.sp f_culetref28_Calc_Add), (81, culetref28_Calc_done.sp f_culetref28_Calc_done)], []⟩ [] 40 Try.f50 [.agg ⟨[.int .i64 a0_0, .int .i64 a0_1, .int .i64 a0_2, .int .i64 a0_3, .int .i64 a0_4, .int .i64 a0_5]⟩, .agg ⟨[.int .i64 a1_0, .int .i64 a1_1, .int .i64 a1_2, .int .i64 a1_3, .int .i64 a1_4, .int .i64 a1_5]⟩] [] = culetref28_Add.K f_culetref28_Valid f_culetref28_Calc_Add f_culetref28_Calc_done a0_0 a0_1 a0_2 a0_3 a0_4 a0_5 a1_0 a1_1 a1_2 a1_3 a1_4 a1_5 (fun r => some (.tuple ⟨[.agg ⟨[.int .i64 r.1, .int .i64 r.2.1, .int .i64 r.2.2.1, .int .i64 r.2.2.2.1, .int .i64 r.2.2.2.2.1, .int .i64 r.2.2.2.2.2.1]⟩, .int .i64 r.2.2.2.2.2.2]⟩, [])) := by kernel_rfl
def culetref28_Add (a0_0 : Int) (a0_1 : Int) (a0_2 : Int) (a0_3 : Int) (a0_4 : Int) (a0_5 : Int) (a1_0 : Int) (a1_1 : Int) (a1_2 : Int) (a1_3 : Int) (a1_4 : Int) (a1_5 : Int) : Int × Int × Int × Int × Int × Int × Int := culetref28_Add.K culetref28_Valid culetref28_Calc_Add culetref28_Calc_done a0_0 a0_1 a0_2 a0_3 a0_4 a0_5 a1_0 a1_1 a1_2 a1_3 a1_4 a1_5 id
theorem culetref28_Add.nat {R : Type} (f_culetref28_Valid : Int → Int → Int → Int → Int → Int → (Bool)) (f_culetref28_Calc_Add : Int → Int → Int → Int → Int → (Int × Int × Int)) (f_culetref28_Calc_done : Int → Int → Int → Int → Int → Int → Int → (Int × Int × Int × Int × Int × Int × Int × Int)) (a0_0 : Int) (a0_1 : Int) (a0_2 : Int) (a0_3 : Int) (a0_4 : Int) (a0_5 : Int) (a1_0 : Int) (a1_1 : Int) (a1_2 : Int) (a1_3 : Int) (a1_4 : Int) (a1_5 : Int) (k : Int × Int × Int × Int × Int × Int × Int → R) : culetref28_Add.K f_culetref28_Valid f_culetref28_Calc_Add f_culetref28_Calc_done a0_0 a0_1 a0_2 a0_3 a0_4 a0_5 a1_0 a1_1 a1_2 a1_3 a1_4 a1_5 k = k (culetref28_Add.K f_culetref28_Valid f_culetref28_Calc_Add f_culetref28_Calc_done a0_0 a0_1 a0_2 a0_3 a0_4 a0_5 a1_0 a1_1 a1_2 a1_3 a1_4 a1_5 id) := by
  simp only [culetref28_Add.K, acond k, id_eq]
theorem culetref28_Add.eq (a0 a1 a2 a3 a4 a5 b0 b1 b2 b3 b4 b5 : Int) : culetref28_Add a0 a1 a2 a3 a4 a5 b0 b1 b2 b3 b4 b5 = o7 (dadd ((a0, a1), (a2, a3), (a4, a5)) ((b0, b1), (b2, b3), (b4, b5))) := by
  simp only [culetref28_Add, culetref28_Add.K, id_eq, culetref28_Valid.eq, culetref28_Calc_Add.eq, culetref28_Calc_done, culetref28_Calc_done.K, id_eq, dadd, dzip, addR]
  cases hV0 : VB ((a0, a1), (a2, a3), (a4, a5)) with
  | false =>
    simp only [hV0, st0, kr0, st70, t3_ok, bind_ok, bind_er, o7, o3, o2, o11, V2_mk, kp0, cond_true, cond_false, Bool.not_true, Bool.not_false, Bool.false_and, Bool.and_false, Bool.true_and, Bool.and_true, bne_self_eq_false, beq_self_eq_true, if_true, if_false]
  | true =>
    cases hV1 : VB ((b0, b1), (b2, b3), (b4, b5)) with
    | false =>
      simp only [hV0, hV1, st0, kr0, st70, t3_ok, bind_ok, bind_er, o7, o3, o2, o11, V2_mk, kp0, cond_true, cond_false, Bool.not_true, Bool.not_false, Bool.false_and, Bool.and_false, Bool.true_and, Bool.and_true, bne_self_eq_false, beq_self_eq_true, if_true, if_false]
    | true =>
      rcases t3c (iadd a0 a1 b0 b1) with ⟨x0, x1, h0⟩ | ⟨x0, x1, e0, n0, h0⟩
      · simp only [hV0, hV1, h0, st0, kr0, st70, t3_ok, bind_ok, bind_er, o7, o3, o2, o11, V2_mk, kp0, cond_true, cond_false, Bool.not_true, Bool.not_false, Bool.false_and, Bool.and_false, Bool.true_and, Bool.and_true, bne_self_eq_false, beq_self_eq_true, if_true, if_false]
        rcases t3c (iadd a2 a3 b2 b3) with ⟨y0, y1, h1⟩ | ⟨y0, y1, e1, n1, h1⟩
        · simp only [h1, st0, kr0, st70, t3_ok, bind_ok, bind_er, o7, o3, o2, o11, V2_mk, kp0, cond_true, cond_false, Bool.not_true, Bool.not_false, Bool.false_and, Bool.and_false, Bool.true_and, Bool.and_true, bne_self_eq_false, beq_self_eq_true, if_true, if_false]
          rcases t3c (iadd a4 a5 b4 b5) with ⟨z0, z1, h2⟩ | ⟨z0, z1, e2, n2, h2⟩
          · simp only [h2, st0, kr0, st70, t3_ok, bind_ok, bind_er, o7, o3, o2, o11, V2_mk, kp0, cond_true, cond_false, Bool.not_true, Bool.not_false, Bool.false_and, Bool.and_false, Bool.true_and, Bool.and_true, bne_self_eq_false, beq_self_eq_true, if_true, if_false]
          · simp only [h2, stE n2, krE n2, st7E n2, t3_er n2, bne_of n2, beq_of n2, kpn _ n2, st0, kr0, st70, t3_ok, bind_ok, bind_er, o7, o3, o2, o11, V2_mk, kp0, cond_true, cond_false, Bool.not_true, Bool.not_false, Bool.false_and, Bool.and_false, Bool.true_and, Bool.and_true, bne_self_eq_false, beq_self_eq_true, if_true, if_false]
        · simp only [h1, stE n1, krE n1, st7E n1, t3_er n1, bne_of n1, beq_of n1, kpn _ n1, st0, kr0, st70, t3_ok, bind_ok, bind_er, o7, o3, o2, o11, V2_mk, kp0, cond_true, cond_false, Bool.not_true, Bool.not_false, Bool.false_and, Bool.and_false, Bool.true_and, Bool.and_true, bne_self_eq_false, beq_self_eq_true, if_true, if_false]
      · simp only [hV0, hV1, h0, stE n0, krE n0, st7E n0, t3_er n0, bne_of n0, beq_of n0, kpn _ n0, st0, kr0, st70, t3_ok, bind_ok, bind_er, o7, o3, o2, o11, V2_mk, kp0, cond_true, cond_false, Bool.not_true, Bool.not_false, Bool.false_and, Bool.and_false, Bool.true_and, Bool.and_true, bne_self_eq_false, beq_self_eq_true, if_true, if_false]
theorem culetref28_Add.ok : SOK Try.prog 50 (culetref28_Add.sp culetref28_Add) := by
  refine sok_of (E := ⟨[(25, culetref28_Valid.sp culetref28_Valid), (78, culetref28_Calc_Add.sp culetref28_Calc_Add), (81, culetref28_Calc_done.sp culetref28_Calc_done)], []⟩) ⟨(specs_cons culetref28_Valid.ok (specs_cons culetref28_Calc_Add.ok (specs_cons culetref28_Calc_done.ok specs_nil))), inl_nil, mixed_ok⟩ 40 Try.func50 (by decide) rfl no_loops fun vs bl v bl' h => ?_
  unfold culetref28_Add.sp at h
  split at h
  · rename_i a0_0 a0_1 a0_2 a0_3 a0_4 a0_5 a1_0 a1_1 a1_2 a1_3 a1_4 a1_5
    simp only [Option.some.injEq, Prod.mk.injEq, true_and] at h
    obtain ⟨rfl, rfl⟩ := h
    refine ⟨?_, by simp [okV, Nat.blt], clo_spec 8 _ (by kernel_rfl), told_blk (by kernel_rfl)⟩
    refine (culetref28_Add.run culetref28_Valid culetref28_Calc_Add culetref28_Calc_done a0_0 a0_1 a0_2 a0_3 a0_4 a0_5 a1_0 a1_1 a1_2 a1_3 a1_4 a1_5).trans ?_
    refine (culetref28_Add.nat culetref28_Valid culetref28_Calc_Add culetref28_Calc_done a0_0 a0_1 a0_2 a0_3 a0_4 a0_5 a1_0 a1_1 a1_2 a1_3 a1_4 a1_5 _).trans ?_
    kernel_rfl
  · cases h

/-! ### culet/culetref29.Refract (10) -/
def culetref29_Refract.K {R : Type} (f_culetref29_Radicand : Int → Int → Int → Int → (Int × Int × Int)) (f_culetref27_Valid : Int → Int → (Bool)) (f_culetref28_Dot : Int → Int → Int → Int → Int → Int → Int → Int → Int → Int → Int → Int → (Int × Int × Int)) (f_culetref27_Sign : Int → Int → (Int)) (f_culetref28_Calc_Sqrt : Int → Int → Int → (Int × Int × Int)) (f_culetref28_Calc_Neg : Int → Int → Int → (Int × Int × Int)) (f_culetref28_Scale : Int → Int → Int → Int → Int → Int → Int → Int → (Int × Int × Int × Int × Int × Int × Int)) (f_culetref28_Calc_Sub : Int → Int → Int → Int → Int → (Int × Int × Int)) (f_culetref28_Calc_Mul : Int → Int → Int → Int → Int → (Int × Int × Int)) (f_culetref28_Add : Int → Int → Int → Int → Int → Int → Int → Int → Int → Int → Int → Int → (Int × Int × Int × Int × Int × Int × Int)) (a0_0 : Int) (a0_1 : Int) (a0_2 : Int) (a0_3 : Int) (a0_4 : Int) (a0_5 : Int) (a1_0 : Int) (a1_1 : Int) (a1_2 : Int) (a1_3 : Int) (a1_4 : Int) (a1_5 : Int) (a2_0 : Int) (a2_1 : Int) (k : Int × Int × Int × Int × Int × Int × Int × Int × Int × Int × Int → R) : R :=
  let t0 := f_culetref27_Valid a2_0 a2_1
  bif !t0 then
    k (0, 0, 0, 0, 0, 0, 0, 0, 0, 0, 1)
  else
    let t1 := f_culetref28_Dot a0_0 a0_1 a0_2 a0_3 a0_4 a0_5 a1_0 a1_1 a1_2 a1_3 a1_4 a1_5
    bif t1.snd.snd != 0 then
      k (0, 0, 0, 0, 0, 0, 0, 0, 0, 0, t1.snd.snd)
    else
      let t2 := f_culetref27_Sign t1.fst t1.snd.fst
      bif t2 == 0 then
        k (0, 0, 0, 0, 0, 0, 0, 0, 0, 0, 9)
      else
        let t3 := f_culetref29_Radicand t1.fst t1.snd.fst a2_0 a2_1
        bif t3.snd.snd != 0 then
          k (0, 0, 0, 0, 0, 0, 0, 0, 0, 0, t3.snd.snd)
        else
          bif decide (t3.fst < 0) then
            k (0, 0, 0, 0, 0, 0, 0, 0, 0, 0, 15)
          else
            bif decide (t2 < 0) then
              let t4 := f_culetref28_Calc_Sqrt 0 t3.fst t3.snd.fst
              let t5 := f_culetref28_Calc_Neg t4.snd.snd t4.fst t4.snd.fst
              bif t5.snd.snd != 0 then
                k (0, 0, 0, 0, 0, 0, 0, 0, 0, 0, t5.snd.snd)
              else
                let t6 := f_culetref28_Scale a0_0 a0_1 a0_2 a0_3 a0_4 a0_5 a2_0 a2_1
                bif t6.snd.snd.snd.snd.snd.snd != 0 then
                  k (0, 0, 0, 0, 0, 0, 0, 0, 0, 0, t6.snd.snd.snd.snd.snd.snd)
                else
                  let t7 := f_culetref28_Calc_Mul t5.snd.snd a2_0 a2_1 t1.fst t1.snd.fst
                  let t8 := f_culetref28_Calc_Sub t7.snd.snd t5.fst t5.snd.fst t7.fst t7.snd.fst
                  bif t8.snd.snd != 0 then
                    k (0, 0, 0, 0, 0, 0, 0, 0, 0, 0, t8.snd.snd)
                  else
                    let t9 := f_culetref28_Scale a1_0 a1_1 a1_2 a1_3 a1_4 a1_5 t8.fst t8.snd.fst
                    bif t9.snd.snd.snd.snd.snd.snd != 0 then
                      k (0, 0, 0, 0, 0, 0, 0, 0, 0, 0, t9.snd.snd.snd.snd.snd.snd)
                    else
                      let t10 := f_culetref28_Add t6.fst t6.snd.fst t6.snd.snd.fst t6.snd.snd.snd.fst t6.snd.snd.snd.snd.fst t6.snd.snd.snd.snd.snd.fst t9.fst t9.snd.fst t9.snd.snd.fst t9.snd.snd.snd.fst t9.snd.snd.snd.snd.fst t9.snd.snd.snd.snd.snd.fst
                      bif t10.snd.snd.snd.snd.snd.snd != 0 then
                        k (0, 0, 0, 0, 0, 0, 0, 0, 0, 0, t10.snd.snd.snd.snd.snd.snd)
                      else
                        k (t10.fst, t10.snd.fst, t10.snd.snd.fst, t10.snd.snd.snd.fst, t10.snd.snd.snd.snd.fst, t10.snd.snd.snd.snd.snd.fst, t1.fst, t1.snd.fst, t5.fst, t5.snd.fst, 0)
            else
              let t11 := f_culetref28_Calc_Sqrt 0 t3.fst t3.snd.fst
              bif t11.snd.snd != 0 then
                k (0, 0, 0, 0, 0, 0, 0, 0, 0, 0, t11.snd.snd)
              else
                let t12 := f_culetref28_Scale a0_0 a0_1 a0_2 a0_3 a0_4 a0_5 a2_0 a2_1
                bif t12.snd.snd.snd.snd.snd.snd != 0 then
                  k (0, 0, 0, 0, 0, 0, 0, 0, 0, 0, t12.snd.snd.snd.snd.snd.snd)
                else
                  let t13 := f_culetref28_Calc_Mul t11.snd.snd a2_0 a2_1 t1.fst t1.snd.fst
                  let t14 := f_culetref28_Calc_Sub t13.snd.snd t11.fst t11.snd.fst t13.fst t13.snd.fst
                  bif t14.snd.snd != 0 then
                    k (0, 0, 0, 0, 0, 0, 0, 0, 0, 0, t14.snd.snd)
                  else
                    let t15 := f_culetref28_Scale a1_0 a1_1 a1_2 a1_3 a1_4 a1_5 t14.fst t14.snd.fst
                    bif t15.snd.snd.snd.snd.snd.snd != 0 then
                      k (0, 0, 0, 0, 0, 0, 0, 0, 0, 0, t15.snd.snd.snd.snd.snd.snd)
                    else
                      let t16 := f_culetref28_Add t12.fst t12.snd.fst t12.snd.snd.fst t12.snd.snd.snd.fst t12.snd.snd.snd.snd.fst t12.snd.snd.snd.snd.snd.fst t15.fst t15.snd.fst t15.snd.snd.fst t15.snd.snd.snd.fst t15.snd.snd.snd.snd.fst t15.snd.snd.snd.snd.snd.fst
                      bif t16.snd.snd.snd.snd.snd.snd != 0 then
                        k (0, 0, 0, 0, 0, 0, 0, 0, 0, 0, t16.snd.snd.snd.snd.snd.snd)
                      else
                        k (t16.fst, t16.snd.fst, t16.snd.snd.fst, t16.snd.snd.snd.fst, t16.snd.snd.snd.snd.fst, t16.snd.snd.snd.snd.snd.fst, t1.fst, t1.snd.fst, t11.fst, t11.snd.fst, 0)
set_option maxRecDepth 100000 in
theorem culetref29_Refract.run (f_culetref29_Radicand : Int → Int → Int → Int → (Int × Int × Int)) (f_culetref27_Valid : Int → Int → (Bool)) (f_culetref28_Dot : Int → Int → Int → Int → Int → Int → Int → Int → Int → Int → Int → Int → (Int × Int × Int)) (f_culetref27_Sign : Int → Int → (Int)) (f_culetref28_Calc_Sqrt : Int → Int → Int → (Int × Int × Int)) (f_culetref28_Calc_Neg : Int → Int → Int → (Int × Int × Int)) (f_culetref28_Scale : Int → Int → Int → Int → Int → Int → Int → Int → (Int × Int × Int × Int × Int × Int × Int)) (f_culetref28_Calc_Sub : Int → Int → Int → Int → Int → (Int × Int × Int)) (f_culetref28_Calc_Mul : Int → Int → Int → Int → Int → (Int × Int × Int)) (f_culetref28_Add : Int → Int → Int → Int → Int → Int → Int → Int → Int → Int → Int → Int → (Int × Int × Int × Int × Int × Int × Int)) (a0_0 : Int) (a0_1 : Int) (a0_2 : Int) (a0_3 : Int) (a0_4 : Int) (a0_5 : Int) (a1_0 : Int) (a1_1 : Int) (a1_2 : Int) (a1_3 : Int) (a1_4 : Int) (a1_5 : Int) (a2_0 : Int) (a2_1 : Int) : xfn Try.prog ⟨[(19, culetref29_Radicand.sp f_culetref29_Radicand), (26, culetref27_Valid.sp f_culetref27_Valid), (43, culetref28_Dot.sp f_culetref28_Dot), (44, culetref27_Sign.sp f_culetref27_Sign), (45, culetref28_Calc_Sqrt.sp f_culetref28_Calc_Sqrt), (46, culetref28_Calc_Neg.sp f_culetref28_Calc_Neg), (47, culetref28_Scale.sp f_culetref28_Scale), (48, culetref28_Calc_Sub.sp f_culetref28_Calc_Sub), (49, culetref28_Calc_Mul.sp f_culetref28_Calc_Mul), (50, culetref28_Add.sp f_culetref28_Add)], []⟩ [] 40 Try.f10 [.agg ⟨[.int .i64 a0_0, .int .i64 a0_1, .int .i64 a0_2, .int .i64 a0_3, .int .i64 a0_4, .int .i64 a0_5]⟩, .agg ⟨[.int .i64 a1_0, .int .i64 a1_1, .int .i64 a1_2, .int .i64 a1_3, .int .i64 a1_4, .int .i64 a1_5]⟩, .agg ⟨[.int .i64 a2_0, .int .i64 a2_1]⟩] [] = culetref29_Refract.K f_culetref29_Radicand f_culetref27_Valid f_culetref28_Dot f_culetref27_Sign f_culetref28_Calc_Sqrt f_culetref28_Calc_Neg f_culetref28_Scale f_culetref28_Calc_Sub f_culetref28_Calc_Mul f_culetref28_Add a0_0 a0_1 a0_2 a0_3 a0_4 a0_5 a1_0 a1_1 a1_2 a1_3 a1_4 a1_5 a2_0 a2_1 (fun r => some (.tuple ⟨[.agg ⟨[.int .i64 r.1, .int .i64 r.2.1, .int .i64 r.2.2.1, .int .i64 r.2.2.2.1, .int .i64 r.2.2.2.2.1, .int .i64 r.2.2.2.2.2.1]⟩, .agg ⟨[.int .i64 r.2.2.2.2.2.2.1, .int .i64 r.2.2.2.2.2.2.2.1]⟩, .agg ⟨[.int .i64 r.2.2.2.2.2.2.2.2.1, .int .i64 r.2.2.2.2.2.2.2.2.2.1]⟩, .int .i64 r.2.2.2.2.2.2.2.2.2.2]⟩, [])) := by kernel_rfl
def culetref29_Refract (a0_0 : Int) (a0_1 : Int) (a0_2 : Int) (a0_3 : Int) (a0_4 : Int) (a0_5 : Int) (a1_0 : Int) (a1_1 : Int) (a1_2 : Int) (a1_3 : Int) (a1_4 : Int) (a1_5 : Int) (a2_0 : Int) (a2_1 : Int) : Int × Int × Int × Int × Int × Int × Int × Int × Int × Int × Int := culetref29_Refract.K culetref29_Radicand culetref27_Valid culetref28_Dot culetref27_Sign culetref28_Calc_Sqrt culetref28_Calc_Neg culetref28_Scale culetref28_Calc_Sub culetref28_Calc_Mul culetref28_Add a0_0 a0_1 a0_2 a0_3 a0_4 a0_5 a1_0 a1_1 a1_2 a1_3 a1_4 a1_5 a2_0 a2_1 id
theorem culetref29_Refract.nat {R : Type} (f_culetref29_Radicand : Int → Int → Int → Int → (Int × Int × Int)) (f_culetref27_Valid : Int → Int → (Bool)) (f_culetref28_Dot : Int → Int → Int → Int → Int → Int → Int → Int → Int → Int → Int → Int → (Int × Int × Int)) (f_culetref27_Sign : Int → Int → (Int)) (f_culetref28_Calc_Sqrt : Int → Int → Int → (Int × Int × Int)) (f_culetref28_Calc_Neg : Int → Int → Int → (Int × Int × Int)) (f_culetref28_Scale : Int → Int → Int → Int → Int → Int → Int → Int → (Int × Int × Int × Int × Int × Int × Int)) (f_culetref28_Calc_Sub : Int → Int → Int → Int → Int → (Int × Int × Int)) (f_culetref28_Calc_Mul : Int → Int → Int → Int → Int → (Int × Int × Int)) (f_culetref28_Add : Int → Int → Int → Int → Int → Int → Int → Int → Int → Int → Int → Int → (Int × Int × Int × Int × Int × Int × Int)) (a0_0 : Int) (a0_1 : Int) (a0_2 : Int) (a0_3 : Int) (a0_4 : Int) (a0_5 : Int) (a1_0 : Int) (a1_1 : Int) (a1_2 : Int) (a1_3 : Int) (a1_4 : Int) (a1_5 : Int) (a2_0 : Int) (a2_1 : Int) (k : Int × Int × Int × Int × Int × Int × Int × Int × Int × Int × Int → R) : culetref29_Refract.K f_culetref29_Radicand f_culetref27_Valid f_culetref28_Dot f_culetref27_Sign f_culetref28_Calc_Sqrt f_culetref28_Calc_Neg f_culetref28_Scale f_culetref28_Calc_Sub f_culetref28_Calc_Mul f_culetref28_Add a0_0 a0_1 a0_2 a0_3 a0_4 a0_5 a1_0 a1_1 a1_2 a1_3 a1_4 a1_5 a2_0 a2_1 k = k (culetref29_Refract.K f_culetref29_Radicand f_culetref27_Valid f_culetref28_Dot f_culetref27_Sign f_culetref28_Calc_Sqrt f_culetref28_Calc_Neg f_culetref28_Scale f_culetref28_Calc_Sub f_culetref28_Calc_Mul f_culetref28_Add a0_0 a0_1 a0_2 a0_3 a0_4 a0_5 a1_0 a1_1 a1_2 a1_3 a1_4 a1_5 a2_0 a2_1 id) := by
  simp only [culetref29_Refract.K, acond k, id_eq]
theorem ddot_bad1 {a b : Bx} (h : VB a = false) : ddot a b = .er 1 := by rw [ddot, h]; rfl
theorem ddot_bad2 {a b : Bx} (h : VB b = false) : ddot a b = .er 1 := by rw [ddot, h, Bool.and_false]; rfl
theorem one_bne : ((1 : Int) != 0) = true := rfl
theorem culetref29_Refract.eq (a0 a1 a2 a3 a4 a5 b0 b1 b2 b3 b4 b5 r0 r1 : Int) : culetref29_Refract a0 a1 a2 a3 a4 a5 b0 b1 b2 b3 b4 b5 r0 r1 = o11 (rfc ((a0, a1), (a2, a3), (a4, a5)) ((b0, b1), (b2, b3), (b4, b5)) (r0, r1)) := by
  simp only [culetref29_Refract, culetref29_Refract.K, id_eq, V2, culetref27_Valid.eq, culetref28_Dot.eq, culetref27_Sign.eq, culetref29_Radicand.eq, culetref28_Calc_Sqrt.eq, culetref28_Calc_Neg.eq, culetref28_Scale.eq, culetref28_Calc_Mul.eq, culetref28_Calc_Sub.eq, culetref28_Add.eq, rfc, rtR, ngR, mulR, subR]
  cases hV0 : V r0 r1 with
  | false =>
    simp only [hV0, st0, kr0, st70, t3_ok, bind_ok, bind_er, o7, o3, o2, o11, V2_mk, kp0, cond_true, cond_false, Bool.not_true, Bool.not_false, Bool.false_and, Bool.and_false, Bool.true_and, Bool.and_true, bne_self_eq_false, beq_self_eq_true, if_true, if_false, one_bne]
  | true =>
    cases hV1 : VB ((a0, a1), (a2, a3), (a4, a5)) with
    | false =>
      simp only [hV0, hV1, ddot_bad1 hV1, st0, kr0, st70, t3_ok, bind_ok, bind_er, o7, o3, o2, o11, V2_mk, kp0, cond_true, cond_false, Bool.not_true, Bool.not_false, Bool.false_and, Bool.and_false, Bool.true_and, Bool.and_true, bne_self_eq_false, beq_self_eq_true, if_true, if_false, one_bne]
    | true =>
      cases hV2 : VB ((b0, b1), (b2, b3), (b4, b5)) with
      | false =>
        simp only [hV0, hV1, hV2, ddot_bad2 hV2, st0, kr0, st70, t3_ok, bind_ok, bind_er, o7, o3, o2, o11, V2_mk, kp0, cond_true, cond_false, Bool.not_true, Bool.not_false, Bool.false_and, Bool.and_false, Bool.true_and, Bool.and_true, bne_self_eq_false, beq_self_eq_true, if_true, if_false, one_bne]
      | true =>
        rcases (ddot_nz ((a0, a1), (a2, a3), (a4, a5)) ((b0, b1), (b2, b3), (b4, b5))).cases with ⟨⟨x0, x1⟩, h0⟩ | ⟨e0, n0, h0⟩
        · simp only [hV0, hV1, hV2, h0, st0, kr0, st70, t3_ok, bind_ok, bind_er, o7, o3, o2, o11, V2_mk, kp0, cond_true, cond_false, Bool.not_true, Bool.not_false, Bool.false_and, Bool.and_false, Bool.true_and, Bool.and_true, bne_self_eq_false, beq_self_eq_true, if_true, if_false, one_bne]
          by_cases h1 : isg x0 x1 = 0
          · have g1 := beqT h1
            simp only [if_pos h1, g1, st0, kr0, st70, t3_ok, bind_ok, bind_er, o7, o3, o2, o11, V2_mk, kp0, cond_true, cond_false, Bool.not_true, Bool.not_false, Bool.false_and, Bool.and_false, Bool.true_and, Bool.and_true, bne_self_eq_false, beq_self_eq_true, if_true, if_false, one_bne]
          · have g1 := beq_of h1
            simp only [if_neg h1, g1, st0, kr0, st70, t3_ok, bind_ok, bind_er, o7, o3, o2, o11, V2_mk, kp0, cond_true, cond_false, Bool.not_true, Bool.not_false, Bool.false_and, Bool.and_false, Bool.true_and, Bool.and_true, bne_self_eq_false, beq_self_eq_true, if_true, if_false, one_bne]
            rcases (rdc_nz (x0, x1) (r0, r1)).cases with ⟨⟨q0, q1⟩, h2⟩ | ⟨e2, n2, h2⟩
            · simp only [h2, st0, kr0, st70, t3_ok, bind_ok, bind_er, o7, o3, o2, o11, V2_mk, kp0, cond_true, cond_false, Bool.not_true, Bool.not_false, Bool.false_and, Bool.and_false, Bool.true_and, Bool.and_true, bne_self_eq_false, beq_self_eq_true, if_true, if_false, one_bne]
              by_cases h3 : q0 < 0
              · have g3 := decide_eq_true h3
                simp only [if_pos h3, g3, st0, kr0, st70, t3_ok, bind_ok, bind_er, o7, o3, o2, o11, V2_mk, kp0, cond_true, cond_false, Bool.not_true, Bool.not_false, Bool.false_and, Bool.and_false, Bool.true_and, Bool.and_true, bne_self_eq_false, beq_self_eq_true, if_true, if_false, one_bne]
              · have g3 := decide_eq_false h3
                simp only [if_neg h3, g3, st0, kr0, st70, t3_ok, bind_ok, bind_er, o7, o3, o2, o11, V2_mk, kp0, cond_true, cond_false, Bool.not_true, Bool.not_false, Bool.false_and, Bool.and_false, Bool.true_and, Bool.and_true, bne_self_eq_false, beq_self_eq_true, if_true, if_false, one_bne]
                by_cases h4 : isg x0 x1 < 0
                · have g4 := decide_eq_true h4
                  simp only [if_pos h4, g4, st0, kr0, st70, t3_ok, bind_ok, bind_er, o7, o3, o2, o11, V2_mk, kp0, cond_true, cond_false, Bool.not_true, Bool.not_false, Bool.false_and, Bool.and_false, Bool.true_and, Bool.and_true, bne_self_eq_false, beq_self_eq_true, if_true, if_false, one_bne]
                  rcases t3c (isr q0 q1) with ⟨s0, s1, h5⟩ | ⟨s0, s1, e5, n5, h5⟩
                  · simp only [h5, st0, kr0, st70, t3_ok, bind_ok, bind_er, o7, o3, o2, o11, V2_mk, kp0, cond_true, cond_false, Bool.not_true, Bool.not_false, Bool.false_and, Bool.and_false, Bool.true_and, Bool.and_true, bne_self_eq_false, beq_self_eq_true, if_true, if_false, one_bne]
                    rcases t3c (ineg s0 s1) with ⟨t0, t1, h6⟩ | ⟨t0, t1, e6, n6, h6⟩
                    · simp only [h6, st0, kr0, st70, t3_ok, bind_ok, bind_er, o7, o3, o2, o11, V2_mk, kp0, cond_true, cond_false, Bool.not_true, Bool.not_false, Bool.false_and, Bool.and_false, Bool.true_and, Bool.and_true, bne_self_eq_false, beq_self_eq_true, if_true, if_false, one_bne]
                      rcases (dscale_nz ((a0, a1), (a2, a3), (a4, a5)) (r0, r1)).cases with ⟨⟨⟨u0, u1⟩, ⟨u2, u3⟩, ⟨u4, u5⟩⟩, h7⟩ | ⟨e7, n7, h7⟩
                      · simp only [h7, st0, kr0, st70, t3_ok, bind_ok, bind_er, o7, o3, o2, o11, V2_mk, kp0, cond_true, cond_false, Bool.not_true, Bool.not_false, Bool.false_and, Bool.and_false, Bool.true_and, Bool.and_true, bne_self_eq_false, beq_self_eq_true, if_true, if_false, one_bne]
                        rcases t3c (imul r0 r1 x0 x1) with ⟨p0, p1, h8⟩ | ⟨p0, p1, e8, n8, h8⟩
                        · simp only [h8, st0, kr0, st70, t3_ok, bind_ok, bind_er, o7, o3, o2, o11, V2_mk, kp0, cond_true, cond_false, Bool.not_true, Bool.not_false, Bool.false_and, Bool.and_false, Bool.true_and, Bool.and_true, bne_self_eq_false, beq_self_eq_true, if_true, if_false, one_bne]
                          rcases t3c (isub t0 t1 p0 p1) with ⟨m0, m1, h9⟩ | ⟨m0, m1, e9, n9, h9⟩
                          · simp only [h9, st0, kr0, st70, t3_ok, bind_ok, bind_er, o7, o3, o2, o11, V2_mk, kp0, cond_true, cond_false, Bool.not_true, Bool.not_false, Bool.false_and, Bool.and_false, Bool.true_and, Bool.and_true, bne_self_eq_false, beq_self_eq_true, if_true, if_false, one_bne]
                            rcases (dscale_nz ((b0, b1), (b2, b3), (b4, b5)) (m0, m1)).cases with ⟨⟨⟨v0, v1⟩, ⟨v2, v3⟩, ⟨v4, v5⟩⟩, h10⟩ | ⟨e10, n10, h10⟩
                            · simp only [h10, st0, kr0, st70, t3_ok, bind_ok, bind_er, o7, o3, o2, o11, V2_mk, kp0, cond_true, cond_false, Bool.not_true, Bool.not_false, Bool.false_and, Bool.and_false, Bool.true_and, Bool.and_true, bne_self_eq_false, beq_self_eq_true, if_true, if_false, one_bne]
                              rcases (dadd_nz ((u0, u1), (u2, u3), (u4, u5)) ((v0, v1), (v2, v3), (v4, v5))).cases with ⟨⟨⟨w0, w1⟩, ⟨w2, w3⟩, ⟨w4, w5⟩⟩, h11⟩ | ⟨e11, n11, h11⟩
                              · simp only [h11, st0, kr0, st70, t3_ok, bind_ok, bind_er, o7, o3, o2, o11, V2_mk, kp0, cond_true, cond_false, Bool.not_true, Bool.not_false, Bool.false_and, Bool.and_false, Bool.true_and, Bool.and_true, bne_self_eq_false, beq_self_eq_true, if_true, if_false, one_bne]
                              · simp only [h11, stE n11, krE n11, st7E n11, t3_er n11, bne_of n11, beq_of n11, kpn _ n11, st0, kr0, st70, t3_ok, bind_ok, bind_er, o7, o3, o2, o11, V2_mk, kp0, cond_true, cond_false, Bool.not_true, Bool.not_false, Bool.false_and, Bool.and_false, Bool.true_and, Bool.and_true, bne_self_eq_false, beq_self_eq_true, if_true, if_false, one_bne]
                            · simp only [h10, stE n10, krE n10, st7E n10, t3_er n10, bne_of n10, beq_of n10, kpn _ n10, st0, kr0, st70, t3_ok, bind_ok, bind_er, o7, o3, o2, o11, V2_mk, kp0, cond_true, cond_false, Bool.not_true, Bool.not_false, Bool.false_and, Bool.and_false, Bool.true_and, Bool.and_true, bne_self_eq_false, beq_self_eq_true, if_true, if_false, one_bne]
                          · simp only [h9, stE n9, krE n9, st7E n9, t3_er n9, bne_of n9, beq_of n9, kpn _ n9, st0, kr0, st70, t3_ok, bind_ok, bind_er, o7, o3, o2, o11, V2_mk, kp0, cond_true, cond_false, Bool.not_true, Bool.not_false, Bool.false_and, Bool.and_false, Bool.true_and, Bool.and_true, bne_self_eq_false, beq_self_eq_true, if_true, if_false, one_bne]
                        · simp only [h8, stE n8, krE n8, st7E n8, t3_er n8, bne_of n8, beq_of n8, kpn _ n8, st0, kr0, st70, t3_ok, bind_ok, bind_er, o7, o3, o2, o11, V2_mk, kp0, cond_true, cond_false, Bool.not_true, Bool.not_false, Bool.false_and, Bool.and_false, Bool.true_and, Bool.and_true, bne_self_eq_false, beq_self_eq_true, if_true, if_false, one_bne]
                      · simp only [h7, stE n7, krE n7, st7E n7, t3_er n7, bne_of n7, beq_of n7, kpn _ n7, st0, kr0, st70, t3_ok, bind_ok, bind_er, o7, o3, o2, o11, V2_mk, kp0, cond_true, cond_false, Bool.not_true, Bool.not_false, Bool.false_and, Bool.and_false, Bool.true_and, Bool.and_true, bne_self_eq_false, beq_self_eq_true, if_true, if_false, one_bne]
                    · simp only [h6, stE n6, krE n6, st7E n6, t3_er n6, bne_of n6, beq_of n6, kpn _ n6, st0, kr0, st70, t3_ok, bind_ok, bind_er, o7, o3, o2, o11, V2_mk, kp0, cond_true, cond_false, Bool.not_true, Bool.not_false, Bool.false_and, Bool.and_false, Bool.true_and, Bool.and_true, bne_self_eq_false, beq_self_eq_true, if_true, if_false, one_bne]
                  · simp only [h5, stE n5, krE n5, st7E n5, t3_er n5, bne_of n5, beq_of n5, kpn _ n5, st0, kr0, st70, t3_ok, bind_ok, bind_er, o7, o3, o2, o11, V2_mk, kp0, cond_true, cond_false, Bool.not_true, Bool.not_false, Bool.false_and, Bool.and_false, Bool.true_and, Bool.and_true, bne_self_eq_false, beq_self_eq_true, if_true, if_false, one_bne]
                · have g4 := decide_eq_false h4
                  simp only [if_neg h4, g4, st0, kr0, st70, t3_ok, bind_ok, bind_er, o7, o3, o2, o11, V2_mk, kp0, cond_true, cond_false, Bool.not_true, Bool.not_false, Bool.false_and, Bool.and_false, Bool.true_and, Bool.and_true, bne_self_eq_false, beq_self_eq_true, if_true, if_false, one_bne]
                  rcases t3c (isr q0 q1) with ⟨s0, s1, h5⟩ | ⟨s0, s1, e5, n5, h5⟩
                  · simp only [h5, st0, kr0, st70, t3_ok, bind_ok, bind_er, o7, o3, o2, o11, V2_mk, kp0, cond_true, cond_false, Bool.not_true, Bool.not_false, Bool.false_and, Bool.and_false, Bool.true_and, Bool.and_true, bne_self_eq_false, beq_self_eq_true, if_true, if_false, one_bne]
                    rcases (dscale_nz ((a0, a1), (a2, a3), (a4, a5)) (r0, r1)).cases with ⟨⟨⟨u0, u1⟩, ⟨u2, u3⟩, ⟨u4, u5⟩⟩, h6⟩ | ⟨e6, n6, h6⟩
                    · simp only [h6, st0, kr0, st70, t3_ok, bind_ok, bind_er, o7, o3, o2, o11, V2_mk, kp0, cond_true, cond_false, Bool.not_true, Bool.not_false, Bool.false_and, Bool.and_false, Bool.true_and, Bool.and_true, bne_self_eq_false, beq_self_eq_true, if_true, if_false, one_bne]
                      rcases t3c (imul r0 r1 x0 x1) with ⟨p0, p1, h7⟩ | ⟨p0, p1, e7, n7, h7⟩
                      · simp only [h7, st0, kr0, st70, t3_ok, bind_ok, bind_er, o7, o3, o2, o11, V2_mk, kp0, cond_true, cond_false, Bool.not_true, Bool.not_false, Bool.false_and, Bool.and_false, Bool.true_and, Bool.and_true, bne_self_eq_false, beq_self_eq_true, if_true, if_false, one_bne]
                        rcases t3c (isub s0 s1 p0 p1) with ⟨m0, m1, h8⟩ | ⟨m0, m1, e8, n8, h8⟩
                        · simp only [h8, st0, kr0, st70, t3_ok, bind_ok, bind_er, o7, o3, o2, o11, V2_mk, kp0, cond_true, cond_false, Bool.not_true, Bool.not_false, Bool.false_and, Bool.and_false, Bool.true_and, Bool.and_true, bne_self_eq_false, beq_self_eq_true, if_true, if_false, one_bne]
                          rcases (dscale_nz ((b0, b1), (b2, b3), (b4, b5)) (m0, m1)).cases with ⟨⟨⟨v0, v1⟩, ⟨v2, v3⟩, ⟨v4, v5⟩⟩, h9⟩ | ⟨e9, n9, h9⟩
                          · simp only [h9, st0, kr0, st70, t3_ok, bind_ok, bind_er, o7, o3, o2, o11, V2_mk, kp0, cond_true, cond_false, Bool.not_true, Bool.not_false, Bool.false_and, Bool.and_false, Bool.true_and, Bool.and_true, bne_self_eq_false, beq_self_eq_true, if_true, if_false, one_bne]
                            rcases (dadd_nz ((u0, u1), (u2, u3), (u4, u5)) ((v0, v1), (v2, v3), (v4, v5))).cases with ⟨⟨⟨w0, w1⟩, ⟨w2, w3⟩, ⟨w4, w5⟩⟩, h10⟩ | ⟨e10, n10, h10⟩
                            · simp only [h10, st0, kr0, st70, t3_ok, bind_ok, bind_er, o7, o3, o2, o11, V2_mk, kp0, cond_true, cond_false, Bool.not_true, Bool.not_false, Bool.false_and, Bool.and_false, Bool.true_and, Bool.and_true, bne_self_eq_false, beq_self_eq_true, if_true, if_false, one_bne]
                            · simp only [h10, stE n10, krE n10, st7E n10, t3_er n10, bne_of n10, beq_of n10, kpn _ n10, st0, kr0, st70, t3_ok, bind_ok, bind_er, o7, o3, o2, o11, V2_mk, kp0, cond_true, cond_false, Bool.not_true, Bool.not_false, Bool.false_and, Bool.and_false, Bool.true_and, Bool.and_true, bne_self_eq_false, beq_self_eq_true, if_true, if_false, one_bne]
                          · simp only [h9, stE n9, krE n9, st7E n9, t3_er n9, bne_of n9, beq_of n9, kpn _ n9, st0, kr0, st70, t3_ok, bind_ok, bind_er, o7, o3, o2, o11, V2_mk, kp0, cond_true, cond_false, Bool.not_true, Bool.not_false, Bool.false_and, Bool.and_false, Bool.true_and, Bool.and_true, bne_self_eq_false, beq_self_eq_true, if_true, if_false, one_bne]
                        · simp only [h8, stE n8, krE n8, st7E n8, t3_er n8, bne_of n8, beq_of n8, kpn _ n8, st0, kr0, st70, t3_ok, bind_ok, bind_er, o7, o3, o2, o11, V2_mk, kp0, cond_true, cond_false, Bool.not_true, Bool.not_false, Bool.false_and, Bool.and_false, Bool.true_and, Bool.and_true, bne_self_eq_false, beq_self_eq_true, if_true, if_false, one_bne]
                      · simp only [h7, stE n7, krE n7, st7E n7, t3_er n7, bne_of n7, beq_of n7, kpn _ n7, st0, kr0, st70, t3_ok, bind_ok, bind_er, o7, o3, o2, o11, V2_mk, kp0, cond_true, cond_false, Bool.not_true, Bool.not_false, Bool.false_and, Bool.and_false, Bool.true_and, Bool.and_true, bne_self_eq_false, beq_self_eq_true, if_true, if_false, one_bne]
                    · simp only [h6, stE n6, krE n6, st7E n6, t3_er n6, bne_of n6, beq_of n6, kpn _ n6, st0, kr0, st70, t3_ok, bind_ok, bind_er, o7, o3, o2, o11, V2_mk, kp0, cond_true, cond_false, Bool.not_true, Bool.not_false, Bool.false_and, Bool.and_false, Bool.true_and, Bool.and_true, bne_self_eq_false, beq_self_eq_true, if_true, if_false, one_bne]
                  · simp only [h5, stE n5, krE n5, st7E n5, t3_er n5, bne_of n5, beq_of n5, kpn _ n5, st0, kr0, st70, t3_ok, bind_ok, bind_er, o7, o3, o2, o11, V2_mk, kp0, cond_true, cond_false, Bool.not_true, Bool.not_false, Bool.false_and, Bool.and_false, Bool.true_and, Bool.and_true, bne_self_eq_false, beq_self_eq_true, if_true, if_false, one_bne]
            · simp only [h2, stE n2, krE n2, st7E n2, t3_er n2, bne_of n2, beq_of n2, kpn _ n2, st0, kr0, st70, t3_ok, bind_ok, bind_er, o7, o3, o2, o11, V2_mk, kp0, cond_true, cond_false, Bool.not_true, Bool.not_false, Bool.false_and, Bool.and_false, Bool.true_and, Bool.and_true, bne_self_eq_false, beq_self_eq_true, if_true, if_false, one_bne]
        · simp only [hV0, hV1, hV2, h0, stE n0, krE n0, st7E n0, t3_er n0, bne_of n0, beq_of n0, kpn _ n0, st0, kr0, st70, t3_ok, bind_ok, bind_er, o7, o3, o2, o11, V2_mk, kp0, cond_true, cond_false, Bool.not_true, Bool.not_false, Bool.false_and, Bool.and_false, Bool.true_and, Bool.and_true, bne_self_eq_false, beq_self_eq_true, if_true, if_false, one_bne]
theorem culetref29_Refract.ok : SOK Try.prog 10 (culetref29_Refract.sp culetref29_Refract) := by
  refine sok_of (E := ⟨[(19, culetref29_Radicand.sp culetref29_Radicand), (26, culetref27_Valid.sp culetref27_Valid), (43, culetref28_Dot.sp culetref28_Dot), (44, culetref27_Sign.sp culetref27_Sign), (45, culetref28_Calc_Sqrt.sp culetref28_Calc_Sqrt), (46, culetref28_Calc_Neg.sp culetref28_Calc_Neg), (47, culetref28_Scale.sp culetref28_Scale), (48, culetref28_Calc_Sub.sp culetref28_Calc_Sub), (49, culetref28_Calc_Mul.sp culetref28_Calc_Mul), (50, culetref28_Add.sp culetref28_Add)], []⟩) ⟨(specs_cons culetref29_Radicand.ok (specs_cons culetref27_Valid.ok (specs_cons culetref28_Dot.ok (specs_cons culetref27_Sign.ok (specs_cons culetref28_Calc_Sqrt.ok (specs_cons culetref28_Calc_Neg.ok (specs_cons culetref28_Scale.ok (specs_cons culetref28_Calc_Sub.ok (specs_cons culetref28_Calc_Mul.ok (specs_cons culetref28_Add.ok specs_nil)))))))))), inl_nil, mixed_ok⟩ 40 Try.func10 (by decide) rfl no_loops fun vs bl v bl' h => ?_
  unfold culetref29_Refract.sp at h
  split at h
  · rename_i a0_0 a0_1 a0_2 a0_3 a0_4 a0_5 a1_0 a1_1 a1_2 a1_3 a1_4 a1_5 a2_0 a2_1
    simp only [Option.some.injEq, Prod.mk.injEq, true_and] at h
    obtain ⟨rfl, rfl⟩ := h
    refine ⟨?_, by simp [okV, Nat.blt], clo_spec 8 _ (by kernel_rfl), told_blk (by kernel_rfl)⟩
    refine (culetref29_Refract.run culetref29_Radicand culetref27_Valid culetref28_Dot culetref27_Sign culetref28_Calc_Sqrt culetref28_Calc_Neg culetref28_Scale culetref28_Calc_Sub culetref28_Calc_Mul culetref28_Add a0_0 a0_1 a0_2 a0_3 a0_4 a0_5 a1_0 a1_1 a1_2 a1_3 a1_4 a1_5 a2_0 a2_1).trans ?_
    refine (culetref29_Refract.nat culetref29_Radicand culetref27_Valid culetref28_Dot culetref27_Sign culetref28_Calc_Sqrt culetref28_Calc_Neg culetref28_Scale culetref28_Calc_Sub culetref28_Calc_Mul culetref28_Add a0_0 a0_1 a0_2 a0_3 a0_4 a0_5 a1_0 a1_1 a1_2 a1_3 a1_4 a1_5 a2_0 a2_1 _).trans ?_
    kernel_rfl
  · cases h

/-! ### culet/culetlaw29.theirs (11) -/
def culetlaw29_theirs.K {R : Type} (a0_0 : Int) (a0_1 : Int) (a0_2 : Int) (a0_3 : Int) (a0_4 : Int) (a0_5 : Int) (k : Int × Int × Int × Int × Int × Int → R) : R :=
  k (a0_0, a0_1, a0_2, a0_3, a0_4, a0_5)
set_option maxRecDepth 100000 in
theorem culetlaw29_theirs.run (a0_0 : Int) (a0_1 : Int) (a0_2 : Int) (a0_3 : Int) (a0_4 : Int) (a0_5 : Int) : xfn Try.prog ⟨[], []⟩ [] 40 Try.f11 [.agg ⟨[.int .i64 a0_0, .int .i64 a0_1, .int .i64 a0_2, .int .i64 a0_3, .int .i64 a0_4, .int .i64 a0_5]⟩] [] = culetlaw29_theirs.K a0_0 a0_1 a0_2 a0_3 a0_4 a0_5 (fun r => some (.agg ⟨[.int .i64 r.1, .int .i64 r.2.1, .int .i64 r.2.2.1, .int .i64 r.2.2.2.1, .int .i64 r.2.2.2.2.1, .int .i64 r.2.2.2.2.2]⟩, [])) := by kernel_rfl
def culetlaw29_theirs (a0_0 : Int) (a0_1 : Int) (a0_2 : Int) (a0_3 : Int) (a0_4 : Int) (a0_5 : Int) : Int × Int × Int × Int × Int × Int := culetlaw29_theirs.K a0_0 a0_1 a0_2 a0_3 a0_4 a0_5 id
theorem culetlaw29_theirs.nat {R : Type} (a0_0 : Int) (a0_1 : Int) (a0_2 : Int) (a0_3 : Int) (a0_4 : Int) (a0_5 : Int) (k : Int × Int × Int × Int × Int × Int → R) : culetlaw29_theirs.K a0_0 a0_1 a0_2 a0_3 a0_4 a0_5 k = k (culetlaw29_theirs.K a0_0 a0_1 a0_2 a0_3 a0_4 a0_5 id) := by
  simp only [culetlaw29_theirs.K, acond k, id_eq]
theorem theirs_eq (a0 a1 a2 a3 a4 a5 : Int) : culetlaw29_theirs a0 a1 a2 a3 a4 a5 = (a0, a1, a2, a3, a4, a5) := rfl
theorem culetlaw29_theirs.ok : SOK Try.prog 11 (culetlaw29_theirs.sp culetlaw29_theirs) := by
  refine sok_of (E := ⟨[], []⟩) ⟨specs_nil, inl_nil, mixed_ok⟩ 40 Try.func11 (by decide) rfl no_loops fun vs bl v bl' h => ?_
  unfold culetlaw29_theirs.sp at h
  split at h
  · rename_i a0_0 a0_1 a0_2 a0_3 a0_4 a0_5
    simp only [Option.some.injEq, Prod.mk.injEq, true_and] at h
    obtain ⟨rfl, rfl⟩ := h
    refine ⟨?_, by simp [okV, Nat.blt], clo_spec 8 _ (by kernel_rfl), told_blk (by kernel_rfl)⟩
    refine (culetlaw29_theirs.run a0_0 a0_1 a0_2 a0_3 a0_4 a0_5).trans ?_
    refine (culetlaw29_theirs.nat a0_0 a0_1 a0_2 a0_3 a0_4 a0_5 _).trans ?_
    kernel_rfl
  · cases h

/-! ### culet/culetlaw29.RefractionRefract (3) -/
def culetlaw29_RefractionRefract.K {R : Type} (f_culetlaw29_awake : (Bool)) (f_refraction_Refract : Int → Int → Int → Int → Int → Int → Int → Int → Int → Int → Int → Int → Int → Int → (Int × Int × Int × Int × Int × Int × Int × Int × Int × Int × Int)) (f_culetref29_Refract : Int → Int → Int → Int → Int → Int → Int → Int → Int → Int → Int → Int → Int → Int → (Int × Int × Int × Int × Int × Int × Int × Int × Int × Int × Int)) (f_culetlaw29_theirs : Int → Int → Int → Int → Int → Int → (Int × Int × Int × Int × Int × Int)) (a0_0 : Int) (a0_1 : Int) (a0_2 : Int) (a0_3 : Int) (a0_4 : Int) (a0_5 : Int) (a1_0 : Int) (a1_1 : Int) (a1_2 : Int) (a1_3 : Int) (a1_4 : Int) (a1_5 : Int) (a2_0 : Int) (a2_1 : Int) (k : (Bool) → R) : R :=
  bif !f_culetlaw29_awake then
    k (false)
  else
    let t0 := f_refraction_Refract a0_0 a0_1 a0_2 a0_3 a0_4 a0_5 a1_0 a1_1 a1_2 a1_3 a1_4 a1_5 a2_0 a2_1
    let t1 := f_culetlaw29_theirs t0.fst t0.snd.fst t0.snd.snd.fst t0.snd.snd.snd.fst t0.snd.snd.snd.snd.fst t0.snd.snd.snd.snd.snd.fst
    let t2 := f_culetlaw29_theirs a0_0 a0_1 a0_2 a0_3 a0_4 a0_5
    let t3 := f_culetlaw29_theirs a1_0 a1_1 a1_2 a1_3 a1_4 a1_5
    let t4 := f_culetref29_Refract t2.fst t2.snd.fst t2.snd.snd.fst t2.snd.snd.snd.fst t2.snd.snd.snd.snd.fst t2.snd.snd.snd.snd.snd t3.fst t3.snd.fst t3.snd.snd.fst t3.snd.snd.snd.fst t3.snd.snd.snd.snd.fst t3.snd.snd.snd.snd.snd a2_0 a2_1
    bif t1.fst == t4.fst && t1.snd.fst == t4.snd.fst && (t1.snd.snd.fst == t4.snd.snd.fst && t1.snd.snd.snd.fst == t4.snd.snd.snd.fst && (t1.snd.snd.snd.snd.fst == t4.snd.snd.snd.snd.fst && t1.snd.snd.snd.snd.snd == t4.snd.snd.snd.snd.snd.fst)) then
      bif t0.snd.snd.snd.snd.snd.snd.fst == t4.snd.snd.snd.snd.snd.snd.fst && t0.snd.snd.snd.snd.snd.snd.snd.fst == t4.snd.snd.snd.snd.snd.snd.snd.fst then
        bif t0.snd.snd.snd.snd.snd.snd.snd.snd.fst == t4.snd.snd.snd.snd.snd.snd.snd.snd.fst && t0.snd.snd.snd.snd.snd.snd.snd.snd.snd.fst == t4.snd.snd.snd.snd.snd.snd.snd.snd.snd.fst then
          k (t0.snd.snd.snd.snd.snd.snd.snd.snd.snd.snd == t4.snd.snd.snd.snd.snd.snd.snd.snd.snd.snd)
        else
          k (false)
      else
        k (false)
    else
      k (false)
set_option maxRecDepth 100000 in
theorem culetlaw29_RefractionRefract.run (f_culetlaw29_awake : (Bool)) (f_refraction_Refract : Int → Int → Int → Int → Int → Int → Int → Int → Int → Int → Int → Int → Int → Int → (Int × Int × Int × Int × Int × Int × Int × Int × Int × Int × Int)) (f_culetref29_Refract : Int → Int → Int → Int → Int → Int → Int → Int → Int → Int → Int → Int → Int → Int → (Int × Int × Int × Int × Int × Int × Int × Int × Int × Int × Int)) (f_culetlaw29_theirs : Int → Int → Int → Int → Int → Int → (Int × Int × Int × Int × Int × Int)) (a0_0 : Int) (a0_1 : Int) (a0_2 : Int) (a0_3 : Int) (a0_4 : Int) (a0_5 : Int) (a1_0 : Int) (a1_1 : Int) (a1_2 : Int) (a1_3 : Int) (a1_4 : Int) (a1_5 : Int) (a2_0 : Int) (a2_1 : Int) : xfn Try.prog ⟨[(8, culetlaw29_awake.sp f_culetlaw29_awake), (9, refraction_Refract.sp f_refraction_Refract), (10, culetref29_Refract.sp f_culetref29_Refract), (11, culetlaw29_theirs.sp f_culetlaw29_theirs)], []⟩ [] 40 Try.f3 [.agg ⟨[.int .i64 a0_0, .int .i64 a0_1, .int .i64 a0_2, .int .i64 a0_3, .int .i64 a0_4, .int .i64 a0_5]⟩, .agg ⟨[.int .i64 a1_0, .int .i64 a1_1, .int .i64 a1_2, .int .i64 a1_3, .int .i64 a1_4, .int .i64 a1_5]⟩, .agg ⟨[.int .i64 a2_0, .int .i64 a2_1]⟩] [] = culetlaw29_RefractionRefract.K f_culetlaw29_awake f_refraction_Refract f_culetref29_Refract f_culetlaw29_theirs a0_0 a0_1 a0_2 a0_3 a0_4 a0_5 a1_0 a1_1 a1_2 a1_3 a1_4 a1_5 a2_0 a2_1 (fun r => some (.bool r, [])) := by kernel_rfl
def culetlaw29_RefractionRefract (a0_0 : Int) (a0_1 : Int) (a0_2 : Int) (a0_3 : Int) (a0_4 : Int) (a0_5 : Int) (a1_0 : Int) (a1_1 : Int) (a1_2 : Int) (a1_3 : Int) (a1_4 : Int) (a1_5 : Int) (a2_0 : Int) (a2_1 : Int) : Bool := culetlaw29_RefractionRefract.K culetlaw29_awake refraction_Refract culetref29_Refract culetlaw29_theirs a0_0 a0_1 a0_2 a0_3 a0_4 a0_5 a1_0 a1_1 a1_2 a1_3 a1_4 a1_5 a2_0 a2_1 id
theorem culetlaw29_RefractionRefract.nat {R : Type} (f_culetlaw29_awake : (Bool)) (f_refraction_Refract : Int → Int → Int → Int → Int → Int → Int → Int → Int → Int → Int → Int → Int → Int → (Int × Int × Int × Int × Int × Int × Int × Int × Int × Int × Int)) (f_culetref29_Refract : Int → Int → Int → Int → Int → Int → Int → Int → Int → Int → Int → Int → Int → Int → (Int × Int × Int × Int × Int × Int × Int × Int × Int × Int × Int)) (f_culetlaw29_theirs : Int → Int → Int → Int → Int → Int → (Int × Int × Int × Int × Int × Int)) (a0_0 : Int) (a0_1 : Int) (a0_2 : Int) (a0_3 : Int) (a0_4 : Int) (a0_5 : Int) (a1_0 : Int) (a1_1 : Int) (a1_2 : Int) (a1_3 : Int) (a1_4 : Int) (a1_5 : Int) (a2_0 : Int) (a2_1 : Int) (k : (Bool) → R) : culetlaw29_RefractionRefract.K f_culetlaw29_awake f_refraction_Refract f_culetref29_Refract f_culetlaw29_theirs a0_0 a0_1 a0_2 a0_3 a0_4 a0_5 a1_0 a1_1 a1_2 a1_3 a1_4 a1_5 a2_0 a2_1 k = k (culetlaw29_RefractionRefract.K f_culetlaw29_awake f_refraction_Refract f_culetref29_Refract f_culetlaw29_theirs a0_0 a0_1 a0_2 a0_3 a0_4 a0_5 a1_0 a1_1 a1_2 a1_3 a1_4 a1_5 a2_0 a2_1 id) := by
  simp only [culetlaw29_RefractionRefract.K, acond k, id_eq]
theorem RefractionRefract.law (a0 a1 a2 a3 a4 a5 b0 b1 b2 b3 b4 b5 r0 r1 : Int) : culetlaw29_RefractionRefract a0 a1 a2 a3 a4 a5 b0 b1 b2 b3 b4 b5 r0 r1 = true := by
  simp only [culetlaw29_RefractionRefract, culetlaw29_RefractionRefract.K, id_eq, awake_true, theirs_eq, refraction_Refract.eq, culetref29_Refract.eq, beq_self_eq_true, Bool.and_self, Bool.not_true, cond_true, cond_false]
theorem culetlaw29_RefractionRefract.calls (a0_0 : Int) (a0_1 : Int) (a0_2 : Int) (a0_3 : Int) (a0_4 : Int) (a0_5 : Int) (a1_0 : Int) (a1_1 : Int) (a1_2 : Int) (a1_3 : Int) (a1_4 : Int) (a1_5 : Int) (a2_0 : Int) (a2_1 : Int) (h : culetlaw29_RefractionRefract a0_0 a0_1 a0_2 a0_3 a0_4 a0_5 a1_0 a1_1 a1_2 a1_3 a1_4 a1_5 a2_0 a2_1 = true) (w : World) : Calls Try.prog 3 ⟨[.agg ⟨[.int .i64 a0_0, .int .i64 a0_1, .int .i64 a0_2, .int .i64 a0_3, .int .i64 a0_4, .int .i64 a0_5]⟩, .agg ⟨[.int .i64 a1_0, .int .i64 a1_1, .int .i64 a1_2, .int .i64 a1_3, .int .i64 a1_4, .int .i64 a1_5]⟩, .agg ⟨[.int .i64 a2_0, .int .i64 a2_1]⟩]⟩ w fun e w' => e = .returned (.bool true) ∧ Below w.heap.size w w' := by
  refine calls_run (E := ⟨[(8, culetlaw29_awake.sp culetlaw29_awake), (9, refraction_Refract.sp refraction_Refract), (10, culetref29_Refract.sp culetref29_Refract), (11, culetlaw29_theirs.sp culetlaw29_theirs)], []⟩) ⟨(specs_cons culetlaw29_awake.ok (specs_cons refraction_Refract.ok (specs_cons culetref29_Refract.ok (specs_cons culetlaw29_theirs.ok specs_nil)))), inl_nil, mixed_ok⟩ 40 Try.func3 (by decide) rfl no_loops (vs := [.agg ⟨[.int .i64 a0_0, .int .i64 a0_1, .int .i64 a0_2, .int .i64 a0_3, .int .i64 a0_4, .int .i64 a0_5]⟩, .agg ⟨[.int .i64 a1_0, .int .i64 a1_1, .int .i64 a1_2, .int .i64 a1_3, .int .i64 a1_4, .int .i64 a1_5]⟩, .agg ⟨[.int .i64 a2_0, .int .i64 a2_1]⟩]) (v := .bool true) ?_ (by simp [okV, Nat.blt]) (clo_spec 8 _ rfl) w
  refine (culetlaw29_RefractionRefract.run culetlaw29_awake refraction_Refract culetref29_Refract culetlaw29_theirs a0_0 a0_1 a0_2 a0_3 a0_4 a0_5 a1_0 a1_1 a1_2 a1_3 a1_4 a1_5 a2_0 a2_1).trans ?_
  rw [culetlaw29_RefractionRefract.nat]
  have h4 : culetlaw29_RefractionRefract.K culetlaw29_awake refraction_Refract culetref29_Refract culetlaw29_theirs a0_0 a0_1 a0_2 a0_3 a0_4 a0_5 a1_0 a1_1 a1_2 a1_3 a1_4 a1_5 a2_0 a2_1 id = true := h
  rw [h4]

/-! ### culet/culetlaw29.RefractionTotal (4) -/
def culetlaw29_RefractionTotal.K {R : Type} (f_culetlaw29_awake : (Bool)) (f_refraction_Refract : Int → Int → Int → Int → Int → Int → Int → Int → Int → Int → Int → Int → Int → Int → (Int × Int × Int × Int × Int × Int × Int × Int × Int × Int × Int)) (f_refraction_Hits : Int → Int → Int → Int → Int → Int → Int → Int → Int → Int → Int → Int → Int → Int → (Int × Int)) (a0_0 : Int) (a0_1 : Int) (a0_2 : Int) (a0_3 : Int) (a0_4 : Int) (a0_5 : Int) (a1_0 : Int) (a1_1 : Int) (a1_2 : Int) (a1_3 : Int) (a1_4 : Int) (a1_5 : Int) (a2_0 : Int) (a2_1 : Int) (k : (Bool) → R) : R :=
  bif !f_culetlaw29_awake then
    k (false)
  else
    let t0 := f_refraction_Hits a0_0 a0_1 a0_2 a0_3 a0_4 a0_5 a1_0 a1_1 a1_2 a1_3 a1_4 a1_5 a2_0 a2_1
    bif t0.snd != 0 then
      bif t0.snd != 0 then
        k (true)
      else
        k (t0.fst != 0)
    else
      let t1 := f_refraction_Refract a0_0 a0_1 a0_2 a0_3 a0_4 a0_5 a1_0 a1_1 a1_2 a1_3 a1_4 a1_5 a2_0 a2_1
      bif t1.snd.snd.snd.snd.snd.snd.snd.snd.snd.snd == 3 then
        bif t0.snd != 0 then
          k (true)
        else
          k (t0.fst != 0)
      else
        bif t1.snd.snd.snd.snd.snd.snd.snd.snd.snd.snd == 9 then
          bif t0.snd != 0 then
            k (true)
          else
            k (t0.fst != 0)
        else
          bif t0.fst == 1 then
            k (t1.snd.snd.snd.snd.snd.snd.snd.snd.snd.snd == 15)
          else
            bif t0.fst == 2 then
              k (t1.snd.snd.snd.snd.snd.snd.snd.snd.snd.snd == 0)
            else
              bif t0.fst == 3 then
                bif t1.snd.snd.snd.snd.snd.snd.snd.snd.snd.snd == 0 then
                  k (true)
                else
                  k (t1.snd.snd.snd.snd.snd.snd.snd.snd.snd.snd == 15)
              else
                k (false)
set_option maxRecDepth 100000 in
theorem culetlaw29_RefractionTotal.run (f_culetlaw29_awake : (Bool)) (f_refraction_Refract : Int → Int → Int → Int → Int → Int → Int → Int → Int → Int → Int → Int → Int → Int → (Int × Int × Int × Int × Int × Int × Int × Int × Int × Int × Int)) (f_refraction_Hits : Int → Int → Int → Int → Int → Int → Int → Int → Int → Int → Int → Int → Int → Int → (Int × Int)) (a0_0 : Int) (a0_1 : Int) (a0_2 : Int) (a0_3 : Int) (a0_4 : Int) (a0_5 : Int) (a1_0 : Int) (a1_1 : Int) (a1_2 : Int) (a1_3 : Int) (a1_4 : Int) (a1_5 : Int) (a2_0 : Int) (a2_1 : Int) : xfn Try.prog ⟨[(8, culetlaw29_awake.sp f_culetlaw29_awake), (9, refraction_Refract.sp f_refraction_Refract), (12, refraction_Hits.sp f_refraction_Hits)], []⟩ [] 40 Try.f4 [.agg ⟨[.int .i64 a0_0, .int .i64 a0_1, .int .i64 a0_2, .int .i64 a0_3, .int .i64 a0_4, .int .i64 a0_5]⟩, .agg ⟨[.int .i64 a1_0, .int .i64 a1_1, .int .i64 a1_2, .int .i64 a1_3, .int .i64 a1_4, .int .i64 a1_5]⟩, .agg ⟨[.int .i64 a2_0, .int .i64 a2_1]⟩] [] = culetlaw29_RefractionTotal.K f_culetlaw29_awake f_refraction_Refract f_refraction_Hits a0_0 a0_1 a0_2 a0_3 a0_4 a0_5 a1_0 a1_1 a1_2 a1_3 a1_4 a1_5 a2_0 a2_1 (fun r => some (.bool r, [])) := by kernel_rfl
def culetlaw29_RefractionTotal (a0_0 : Int) (a0_1 : Int) (a0_2 : Int) (a0_3 : Int) (a0_4 : Int) (a0_5 : Int) (a1_0 : Int) (a1_1 : Int) (a1_2 : Int) (a1_3 : Int) (a1_4 : Int) (a1_5 : Int) (a2_0 : Int) (a2_1 : Int) : Bool := culetlaw29_RefractionTotal.K culetlaw29_awake refraction_Refract refraction_Hits a0_0 a0_1 a0_2 a0_3 a0_4 a0_5 a1_0 a1_1 a1_2 a1_3 a1_4 a1_5 a2_0 a2_1 id
theorem culetlaw29_RefractionTotal.nat {R : Type} (f_culetlaw29_awake : (Bool)) (f_refraction_Refract : Int → Int → Int → Int → Int → Int → Int → Int → Int → Int → Int → Int → Int → Int → (Int × Int × Int × Int × Int × Int × Int × Int × Int × Int × Int)) (f_refraction_Hits : Int → Int → Int → Int → Int → Int → Int → Int → Int → Int → Int → Int → Int → Int → (Int × Int)) (a0_0 : Int) (a0_1 : Int) (a0_2 : Int) (a0_3 : Int) (a0_4 : Int) (a0_5 : Int) (a1_0 : Int) (a1_1 : Int) (a1_2 : Int) (a1_3 : Int) (a1_4 : Int) (a1_5 : Int) (a2_0 : Int) (a2_1 : Int) (k : (Bool) → R) : culetlaw29_RefractionTotal.K f_culetlaw29_awake f_refraction_Refract f_refraction_Hits a0_0 a0_1 a0_2 a0_3 a0_4 a0_5 a1_0 a1_1 a1_2 a1_3 a1_4 a1_5 a2_0 a2_1 k = k (culetlaw29_RefractionTotal.K f_culetlaw29_awake f_refraction_Refract f_refraction_Hits a0_0 a0_1 a0_2 a0_3 a0_4 a0_5 a1_0 a1_1 a1_2 a1_3 a1_4 a1_5 a2_0 a2_1 id) := by
  simp only [culetlaw29_RefractionTotal.K, acond k, id_eq]
theorem RefractionTotal.law (a0 a1 a2 a3 a4 a5 b0 b1 b2 b3 b4 b5 r0 r1 : Int) : culetlaw29_RefractionTotal a0 a1 a2 a3 a4 a5 b0 b1 b2 b3 b4 b5 r0 r1 = true := by
  simp only [culetlaw29_RefractionTotal, culetlaw29_RefractionTotal.K, id_eq, awake_true, refraction_Refract.eq, refraction_Hits.eq, Bool.not_true, cond_false]
  have hz := hit_nz ((a0, a1), (a2, a3), (a4, a5)) ((b0, b1), (b2, b3), (b4, b5)) (r0, r1)
  rcases total_law ((a0, a1), (a2, a3), (a4, a5)) ((b0, b1), (b2, b3), (b4, b5)) (r0, r1) with ⟨e, h⟩ | ⟨k, h, hk, h2 | h2 | ⟨hk1, h2⟩ | ⟨hk1, ⟨o, h2⟩⟩ | ⟨hk1, ⟨o, h2⟩ | h2⟩⟩
  · rw [h]; simp only [o2, bne_of (hz e h), cond_true]
  · rw [h, h2]; simp only [o2, o11, bne_of hk, bne_self_eq_false, beq_self_eq_true, cond_true, cond_false]
  · rw [h, h2]; simp only [o2, o11, bne_of hk, bne_self_eq_false, beq_self_eq_true, cond_true, cond_false, bool_cond_true]
  · rw [h, h2, hk1]; rfl
  · rw [h, h2, hk1]; rfl
  · rw [h, h2, hk1]; rfl
  · rw [h, h2, hk1]; rfl
theorem culetlaw29_RefractionTotal.calls (a0_0 : Int) (a0_1 : Int) (a0_2 : Int) (a0_3 : Int) (a0_4 : Int) (a0_5 : Int) (a1_0 : Int) (a1_1 : Int) (a1_2 : Int) (a1_3 : Int) (a1_4 : Int) (a1_5 : Int) (a2_0 : Int) (a2_1 : Int) (h : culetlaw29_RefractionTotal a0_0 a0_1 a0_2 a0_3 a0_4 a0_5 a1_0 a1_1 a1_2 a1_3 a1_4 a1_5 a2_0 a2_1 = true) (w : World) : Calls Try.prog 4 ⟨[.agg ⟨[.int .i64 a0_0, .int .i64 a0_1, .int .i64 a0_2, .int .i64 a0_3, .int .i64 a0_4, .int .i64 a0_5]⟩, .agg ⟨[.int .i64 a1_0, .int .i64 a1_1, .int .i64 a1_2, .int .i64 a1_3, .int .i64 a1_4, .int .i64 a1_5]⟩, .agg ⟨[.int .i64 a2_0, .int .i64 a2_1]⟩]⟩ w fun e w' => e = .returned (.bool true) ∧ Below w.heap.size w w' := by
  refine calls_run (E := ⟨[(8, culetlaw29_awake.sp culetlaw29_awake), (9, refraction_Refract.sp refraction_Refract), (12, refraction_Hits.sp refraction_Hits)], []⟩) ⟨(specs_cons culetlaw29_awake.ok (specs_cons refraction_Refract.ok (specs_cons refraction_Hits.ok specs_nil))), inl_nil, mixed_ok⟩ 40 Try.func4 (by decide) rfl no_loops (vs := [.agg ⟨[.int .i64 a0_0, .int .i64 a0_1, .int .i64 a0_2, .int .i64 a0_3, .int .i64 a0_4, .int .i64 a0_5]⟩, .agg ⟨[.int .i64 a1_0, .int .i64 a1_1, .int .i64 a1_2, .int .i64 a1_3, .int .i64 a1_4, .int .i64 a1_5]⟩, .agg ⟨[.int .i64 a2_0, .int .i64 a2_1]⟩]) (v := .bool true) ?_ (by simp [okV, Nat.blt]) (clo_spec 8 _ rfl) w
  refine (culetlaw29_RefractionTotal.run culetlaw29_awake refraction_Refract refraction_Hits a0_0 a0_1 a0_2 a0_3 a0_4 a0_5 a1_0 a1_1 a1_2 a1_3 a1_4 a1_5 a2_0 a2_1).trans ?_
  rw [culetlaw29_RefractionTotal.nat]
  have h4 : culetlaw29_RefractionTotal.K culetlaw29_awake refraction_Refract refraction_Hits a0_0 a0_1 a0_2 a0_3 a0_4 a0_5 a1_0 a1_1 a1_2 a1_3 a1_4 a1_5 a2_0 a2_1 id = true := h
  rw [h4]

/-! ### culet/interval.Inside (51) -/
def interval_Inside.K {R : Type} (f_interval_Valid : Int → Int → (Bool)) (a0_0 : Int) (a0_1 : Int) (a1_0 : Int) (a1_1 : Int) (k : (Bool) → R) : R :=
  let t0 := f_interval_Valid a0_0 a0_1
  bif !t0 then
    k (false)
  else
    let t1 := f_interval_Valid a1_0 a1_1
    bif !t1 then
      k (false)
    else
      bif decide (a0_0 ≥ a1_0) then
        k (decide (a0_1 ≤ a1_1))
      else
        k (false)
set_option maxRecDepth 100000 in
theorem interval_Inside.run (f_interval_Valid : Int → Int → (Bool)) (a0_0 : Int) (a0_1 : Int) (a1_0 : Int) (a1_1 : Int) : xfn Try.prog ⟨[(56, interval_Valid.sp f_interval_Valid)], [(72, Try.f72)]⟩ [] 40 Try.f51 [.agg ⟨[.int .i64 a0_0, .int .i64 a0_1]⟩, .agg ⟨[.int .i64 a1_0, .int .i64 a1_1]⟩] [] = interval_Inside.K f_interval_Valid a0_0 a0_1 a1_0 a1_1 (fun r => some (.bool r, [])) := by kernel_rfl
def interval_Inside (a0_0 : Int) (a0_1 : Int) (a1_0 : Int) (a1_1 : Int) : Bool := interval_Inside.K interval_Valid a0_0 a0_1 a1_0 a1_1 id
theorem interval_Inside.nat {R : Type} (f_interval_Valid : Int → Int → (Bool)) (a0_0 : Int) (a0_1 : Int) (a1_0 : Int) (a1_1 : Int) (k : (Bool) → R) : interval_Inside.K f_interval_Valid a0_0 a0_1 a1_0 a1_1 k = k (interval_Inside.K f_interval_Valid a0_0 a0_1 a1_0 a1_1 id) := by
  simp only [interval_Inside.K, acond k, id_eq]
def inb (a b c d : Int) : Bool := V a b && (V c d && (decide (c ≤ a) && decide (b ≤ d)))
theorem inb_of {a b c d : Int} (h1 : V a b = true) (h2 : V c d = true) (h3 : c ≤ a) (h4 : b ≤ d) : inb a b c d = true := by simp only [inb, h1, h2, h3, h4, decide_true, Bool.and_self]
theorem interval_Inside.eq (a b c d : Int) : interval_Inside a b c d = inb a b c d := by
  simp only [interval_Inside, interval_Inside.K, id_eq, interval_Valid.eq, inb]
  cases V a b <;> cases V c d <;> by_cases h1 : c ≤ a <;> simp [h1]
theorem interval_Inside.ok : SOK Try.prog 51 (interval_Inside.sp interval_Inside) := by
  refine sok_of (E := ⟨[(56, interval_Valid.sp interval_Valid)], [(72, Try.f72)]⟩) ⟨(specs_cons interval_Valid.ok specs_nil), (inl_cons ⟨Try.func72, by decide, rfl⟩ inl_nil), mixed_ok⟩ 40 Try.func51 (by decide) rfl no_loops fun vs bl v bl' h => ?_
  unfold interval_Inside.sp at h
  split at h
  · rename_i a0_0 a0_1 a1_0 a1_1
    simp only [Option.some.injEq, Prod.mk.injEq, true_and] at h
    obtain ⟨rfl, rfl⟩ := h
    refine ⟨?_, by simp [okV, Nat.blt], clo_spec 8 _ (by kernel_rfl), told_blk (by kernel_rfl)⟩
    refine (interval_Inside.run interval_Valid a0_0 a0_1 a1_0 a1_1).trans ?_
    refine (interval_Inside.nat interval_Valid a0_0 a0_1 a1_0 a1_1 _).trans ?_
    kernel_rfl
  · cases h

/-! ### culet/direction.Inside (14) -/
def direction_Inside.K {R : Type} (f_interval_Inside : Int → Int → Int → Int → (Bool)) (a0_0 : Int) (a0_1 : Int) (a0_2 : Int) (a0_3 : Int) (a0_4 : Int) (a0_5 : Int) (a1_0 : Int) (a1_1 : Int) (a1_2 : Int) (a1_3 : Int) (a1_4 : Int) (a1_5 : Int) (k : (Bool) → R) : R :=
  let t0 := f_interval_Inside a0_0 a0_1 a1_0 a1_1
  bif t0 then
    let t1 := f_interval_Inside a0_2 a0_3 a1_2 a1_3
    bif t1 then
      let t2 := f_interval_Inside a0_4 a0_5 a1_4 a1_5
      k (t2)
    else
      k (false)
  else
    k (false)
set_option maxRecDepth 100000 in
theorem direction_Inside.run (f_interval_Inside : Int → Int → Int → Int → (Bool)) (a0_0 : Int) (a0_1 : Int) (a0_2 : Int) (a0_3 : Int) (a0_4 : Int) (a0_5 : Int) (a1_0 : Int) (a1_1 : Int) (a1_2 : Int) (a1_3 : Int) (a1_4 : Int) (a1_5 : Int) : xfn Try.prog ⟨[(51, interval_Inside.sp f_interval_Inside)], []⟩ [] 40 Try.f14 [.agg ⟨[.int .i64 a0_0, .int .i64 a0_1, .int .i64 a0_2, .int .i64 a0_3, .int .i64 a0_4, .int .i64 a0_5]⟩, .agg ⟨[.int .i64 a1_0, .int .i64 a1_1, .int .i64 a1_2, .int .i64 a1_3, .int .i64 a1_4, .int .i64 a1_5]⟩] [] = direction_Inside.K f_interval_Inside a0_0 a0_1 a0_2 a0_3 a0_4 a0_5 a1_0 a1_1 a1_2 a1_3 a1_4 a1_5 (fun r => some (.bool r, [])) := by kernel_rfl
def direction_Inside (a0_0 : Int) (a0_1 : Int) (a0_2 : Int) (a0_3 : Int) (a0_4 : Int) (a0_5 : Int) (a1_0 : Int) (a1_1 : Int) (a1_2 : Int) (a1_3 : Int) (a1_4 : Int) (a1_5 : Int) : Bool := direction_Inside.K interval_Inside a0_0 a0_1 a0_2 a0_3 a0_4 a0_5 a1_0 a1_1 a1_2 a1_3 a1_4 a1_5 id
theorem direction_Inside.nat {R : Type} (f_interval_Inside : Int → Int → Int → Int → (Bool)) (a0_0 : Int) (a0_1 : Int) (a0_2 : Int) (a0_3 : Int) (a0_4 : Int) (a0_5 : Int) (a1_0 : Int) (a1_1 : Int) (a1_2 : Int) (a1_3 : Int) (a1_4 : Int) (a1_5 : Int) (k : (Bool) → R) : direction_Inside.K f_interval_Inside a0_0 a0_1 a0_2 a0_3 a0_4 a0_5 a1_0 a1_1 a1_2 a1_3 a1_4 a1_5 k = k (direction_Inside.K f_interval_Inside a0_0 a0_1 a0_2 a0_3 a0_4 a0_5 a1_0 a1_1 a1_2 a1_3 a1_4 a1_5 id) := by
  simp only [direction_Inside.K, acond k, id_eq]
theorem direction_Inside.of {a0 a1 a2 a3 a4 a5 b0 b1 b2 b3 b4 b5 : Int} (h0 : inb a0 a1 b0 b1 = true) (h1 : inb a2 a3 b2 b3 = true) (h2 : inb a4 a5 b4 b5 = true) : direction_Inside a0 a1 a2 a3 a4 a5 b0 b1 b2 b3 b4 b5 = true := by
  simp only [direction_Inside, direction_Inside.K, id_eq, interval_Inside.eq, h0, h1, h2, cond_true]
theorem direction_Inside.ok : SOK Try.prog 14 (direction_Inside.sp direction_Inside) := by
  refine sok_of (E := ⟨[(51, interval_Inside.sp interval_Inside)], []⟩) ⟨(specs_cons interval_Inside.ok specs_nil), inl_nil, mixed_ok⟩ 40 Try.func14 (by decide) rfl no_loops fun vs bl v bl' h => ?_
  unfold direction_Inside.sp at h
  split at h
  · rename_i a0_0 a0_1 a0_2 a0_3 a0_4 a0_5 a1_0 a1_1 a1_2 a1_3 a1_4 a1_5
    simp only [Option.some.injEq, Prod.mk.injEq, true_and] at h
    obtain ⟨rfl, rfl⟩ := h
    refine ⟨?_, by simp [okV, Nat.blt], clo_spec 8 _ (by kernel_rfl), told_blk (by kernel_rfl)⟩
    refine (direction_Inside.run interval_Inside a0_0 a0_1 a0_2 a0_3 a0_4 a0_5 a1_0 a1_1 a1_2 a1_3 a1_4 a1_5).trans ?_
    refine (direction_Inside.nat interval_Inside a0_0 a0_1 a0_2 a0_3 a0_4 a0_5 a1_0 a1_1 a1_2 a1_3 a1_4 a1_5 _).trans ?_
    kernel_rfl
  · cases h

/-! ### culet/culetlaw29.meet (15) -/
def culetlaw29_meet.K {R : Type} (a0_0 : Int) (a0_1 : Int) (a1_0 : Int) (a1_1 : Int) (k : (Bool) → R) : R :=
  bif decide (a0_0 ≤ a1_1) then
    k (decide (a1_0 ≤ a0_1))
  else
    k (false)
set_option maxRecDepth 100000 in
theorem culetlaw29_meet.run (a0_0 : Int) (a0_1 : Int) (a1_0 : Int) (a1_1 : Int) : xfn Try.prog ⟨[], []⟩ [] 40 Try.f15 [.agg ⟨[.int .i64 a0_0, .int .i64 a0_1]⟩, .agg ⟨[.int .i64 a1_0, .int .i64 a1_1]⟩] [] = culetlaw29_meet.K a0_0 a0_1 a1_0 a1_1 (fun r => some (.bool r, [])) := by kernel_rfl
def culetlaw29_meet (a0_0 : Int) (a0_1 : Int) (a1_0 : Int) (a1_1 : Int) : Bool := culetlaw29_meet.K a0_0 a0_1 a1_0 a1_1 id
theorem culetlaw29_meet.nat {R : Type} (a0_0 : Int) (a0_1 : Int) (a1_0 : Int) (a1_1 : Int) (k : (Bool) → R) : culetlaw29_meet.K a0_0 a0_1 a1_0 a1_1 k = k (culetlaw29_meet.K a0_0 a0_1 a1_0 a1_1 id) := by
  simp only [culetlaw29_meet.K, acond k, id_eq]
theorem culetlaw29_meet.ok : SOK Try.prog 15 (culetlaw29_meet.sp culetlaw29_meet) := by
  refine sok_of (E := ⟨[], []⟩) ⟨specs_nil, inl_nil, mixed_ok⟩ 40 Try.func15 (by decide) rfl no_loops fun vs bl v bl' h => ?_
  unfold culetlaw29_meet.sp at h
  split at h
  · rename_i a0_0 a0_1 a1_0 a1_1
    simp only [Option.some.injEq, Prod.mk.injEq, true_and] at h
    obtain ⟨rfl, rfl⟩ := h
    refine ⟨?_, by simp [okV, Nat.blt], clo_spec 8 _ (by kernel_rfl), told_blk (by kernel_rfl)⟩
    refine (culetlaw29_meet.run a0_0 a0_1 a1_0 a1_1).trans ?_
    refine (culetlaw29_meet.nat a0_0 a0_1 a1_0 a1_1 _).trans ?_
    kernel_rfl
  · cases h

/-! ### culet/culetlaw29.RefractionStraight (5) -/
def culetlaw29_RefractionStraight.K {R : Type} (f_culetlaw29_awake : (Bool)) (f_refraction_Refract : Int → Int → Int → Int → Int → Int → Int → Int → Int → Int → Int → Int → Int → Int → (Int × Int × Int × Int × Int × Int × Int × Int × Int × Int × Int)) (f_culetref28_One : (Int × Int)) (f_direction_Inside : Int → Int → Int → Int → Int → Int → Int → Int → Int → Int → Int → Int → (Bool)) (f_culetlaw29_meet : Int → Int → Int → Int → (Bool)) (a0_0 : Int) (a0_1 : Int) (a0_2 : Int) (a0_3 : Int) (a0_4 : Int) (a0_5 : Int) (a1_0 : Int) (a1_1 : Int) (a1_2 : Int) (a1_3 : Int) (a1_4 : Int) (a1_5 : Int) (k : (Bool) → R) : R :=
  bif !f_culetlaw29_awake then
    k (false)
  else
    let t0 := f_refraction_Refract a0_0 a0_1 a0_2 a0_3 a0_4 a0_5 a1_0 a1_1 a1_2 a1_3 a1_4 a1_5 f_culetref28_One.fst f_culetref28_One.snd
    bif t0.snd.snd.snd.snd.snd.snd.snd.snd.snd.snd != 0 then
      k (true)
    else
      let t1 := f_direction_Inside a0_0 a0_1 a0_2 a0_3 a0_4 a0_5 t0.fst t0.snd.fst t0.snd.snd.fst t0.snd.snd.snd.fst t0.snd.snd.snd.snd.fst t0.snd.snd.snd.snd.snd.fst
      bif t1 then
        let t2 := f_culetlaw29_meet t0.snd.snd.snd.snd.snd.snd.fst t0.snd.snd.snd.snd.snd.snd.snd.fst t0.snd.snd.snd.snd.snd.snd.snd.snd.fst t0.snd.snd.snd.snd.snd.snd.snd.snd.snd.fst
        k (t2)
      else
        k (false)
set_option maxRecDepth 100000 in
theorem culetlaw29_RefractionStraight.run (f_culetlaw29_awake : (Bool)) (f_refraction_Refract : Int → Int → Int → Int → Int → Int → Int → Int → Int → Int → Int → Int → Int → Int → (Int × Int × Int × Int × Int × Int × Int × Int × Int × Int × Int)) (f_culetref28_One : (Int × Int)) (f_direction_Inside : Int → Int → Int → Int → Int → Int → Int → Int → Int → Int → Int → Int → (Bool)) (f_culetlaw29_meet : Int → Int → Int → Int → (Bool)) (a0_0 : Int) (a0_1 : Int) (a0_2 : Int) (a0_3 : Int) (a0_4 : Int) (a0_5 : Int) (a1_0 : Int) (a1_1 : Int) (a1_2 : Int) (a1_3 : Int) (a1_4 : Int) (a1_5 : Int) : xfn Try.prog ⟨[(8, culetlaw29_awake.sp f_culetlaw29_awake), (9, refraction_Refract.sp f_refraction_Refract), (13, culetref28_One.sp f_culetref28_One), (14, direction_Inside.sp f_direction_Inside), (15, culetlaw29_meet.sp f_culetlaw29_meet)], []⟩ [] 40 Try.f5 [.agg ⟨[.int .i64 a0_0, .int .i64 a0_1, .int .i64 a0_2, .int .i64 a0_3, .int .i64 a0_4, .int .i64 a0_5]⟩, .agg ⟨[.int .i64 a1_0, .int .i64 a1_1, .int .i64 a1_2, .int .i64 a1_3, .int .i64 a1_4, .int .i64 a1_5]⟩] [] = culetlaw29_RefractionStraight.K f_culetlaw29_awake f_refraction_Refract f_culetref28_One f_direction_Inside f_culetlaw29_meet a0_0 a0_1 a0_2 a0_3 a0_4 a0_5 a1_0 a1_1 a1_2 a1_3 a1_4 a1_5 (fun r => some (.bool r, [])) := by kernel_rfl
def culetlaw29_RefractionStraight (a0_0 : Int) (a0_1 : Int) (a0_2 : Int) (a0_3 : Int) (a0_4 : Int) (a0_5 : Int) (a1_0 : Int) (a1_1 : Int) (a1_2 : Int) (a1_3 : Int) (a1_4 : Int) (a1_5 : Int) : Bool := culetlaw29_RefractionStraight.K culetlaw29_awake refraction_Refract culetref28_One direction_Inside culetlaw29_meet a0_0 a0_1 a0_2 a0_3 a0_4 a0_5 a1_0 a1_1 a1_2 a1_3 a1_4 a1_5 id
theorem culetlaw29_RefractionStraight.nat {R : Type} (f_culetlaw29_awake : (Bool)) (f_refraction_Refract : Int → Int → Int → Int → Int → Int → Int → Int → Int → Int → Int → Int → Int → Int → (Int × Int × Int × Int × Int × Int × Int × Int × Int × Int × Int)) (f_culetref28_One : (Int × Int)) (f_direction_Inside : Int → Int → Int → Int → Int → Int → Int → Int → Int → Int → Int → Int → (Bool)) (f_culetlaw29_meet : Int → Int → Int → Int → (Bool)) (a0_0 : Int) (a0_1 : Int) (a0_2 : Int) (a0_3 : Int) (a0_4 : Int) (a0_5 : Int) (a1_0 : Int) (a1_1 : Int) (a1_2 : Int) (a1_3 : Int) (a1_4 : Int) (a1_5 : Int) (k : (Bool) → R) : culetlaw29_RefractionStraight.K f_culetlaw29_awake f_refraction_Refract f_culetref28_One f_direction_Inside f_culetlaw29_meet a0_0 a0_1 a0_2 a0_3 a0_4 a0_5 a1_0 a1_1 a1_2 a1_3 a1_4 a1_5 k = k (culetlaw29_RefractionStraight.K f_culetlaw29_awake f_refraction_Refract f_culetref28_One f_direction_Inside f_culetlaw29_meet a0_0 a0_1 a0_2 a0_3 a0_4 a0_5 a1_0 a1_1 a1_2 a1_3 a1_4 a1_5 id) := by
  simp only [culetlaw29_RefractionStraight.K, acond k, id_eq]
theorem RefractionStraight.law (a0 a1 a2 a3 a4 a5 b0 b1 b2 b3 b4 b5 : Int) : culetlaw29_RefractionStraight a0 a1 a2 a3 a4 a5 b0 b1 b2 b3 b4 b5 = true := by
  simp only [culetlaw29_RefractionStraight, culetlaw29_RefractionStraight.K, id_eq, awake_true, refraction_Refract.eq, culetref28_One.eq, Bool.not_true, cond_false]
  have hz := rfc_nz ((a0, a1), (a2, a3), (a4, a5)) ((b0, b1), (b2, b3), (b4, b5)) (16777216, 16777216)
  rcases hz.cases with ⟨⟨⟨⟨x0, x1⟩, ⟨y0, y1⟩, ⟨z0, z1⟩⟩, ⟨c0, c1⟩, ⟨d0, d1⟩⟩, h⟩ | ⟨e, he, h⟩
  · obtain ⟨v1, v2, h1, h2, h3, h4, h5⟩ := straight_law h
    rw [VB_iff] at v1 v2
    simp only at h1 h2 h3 h4 h5
    rw [h]
    simp only [o11, direction_Inside.of (inb_of v1.1 v2.1 h1.1 h1.2) (inb_of v1.2.1 v2.2.1 h2.1 h2.2) (inb_of v1.2.2 v2.2.2 h3.1 h3.2), culetlaw29_meet, culetlaw29_meet.K, id_eq, h4, h5, decide_true, cond_true, bne_self_eq_false, cond_false]
  · rw [h]; simp only [o11, bne_of he, cond_true]
theorem culetlaw29_RefractionStraight.calls (a0_0 : Int) (a0_1 : Int) (a0_2 : Int) (a0_3 : Int) (a0_4 : Int) (a0_5 : Int) (a1_0 : Int) (a1_1 : Int) (a1_2 : Int) (a1_3 : Int) (a1_4 : Int) (a1_5 : Int) (h : culetlaw29_RefractionStraight a0_0 a0_1 a0_2 a0_3 a0_4 a0_5 a1_0 a1_1 a1_2 a1_3 a1_4 a1_5 = true) (w : World) : Calls Try.prog 5 ⟨[.agg ⟨[.int .i64 a0_0, .int .i64 a0_1, .int .i64 a0_2, .int .i64 a0_3, .int .i64 a0_4, .int .i64 a0_5]⟩, .agg ⟨[.int .i64 a1_0, .int .i64 a1_1, .int .i64 a1_2, .int .i64 a1_3, .int .i64 a1_4, .int .i64 a1_5]⟩]⟩ w fun e w' => e = .returned (.bool true) ∧ Below w.heap.size w w' := by
  refine calls_run (E := ⟨[(8, culetlaw29_awake.sp culetlaw29_awake), (9, refraction_Refract.sp refraction_Refract), (13, culetref28_One.sp culetref28_One), (14, direction_Inside.sp direction_Inside), (15, culetlaw29_meet.sp culetlaw29_meet)], []⟩) ⟨(specs_cons culetlaw29_awake.ok (specs_cons refraction_Refract.ok (specs_cons culetref28_One.ok (specs_cons direction_Inside.ok (specs_cons culetlaw29_meet.ok specs_nil))))), inl_nil, mixed_ok⟩ 40 Try.func5 (by decide) rfl no_loops (vs := [.agg ⟨[.int .i64 a0_0, .int .i64 a0_1, .int .i64 a0_2, .int .i64 a0_3, .int .i64 a0_4, .int .i64 a0_5]⟩, .agg ⟨[.int .i64 a1_0, .int .i64 a1_1, .int .i64 a1_2, .int .i64 a1_3, .int .i64 a1_4, .int .i64 a1_5]⟩]) (v := .bool true) ?_ (by simp [okV, Nat.blt]) (clo_spec 8 _ rfl) w
  refine (culetlaw29_RefractionStraight.run culetlaw29_awake refraction_Refract culetref28_One direction_Inside culetlaw29_meet a0_0 a0_1 a0_2 a0_3 a0_4 a0_5 a1_0 a1_1 a1_2 a1_3 a1_4 a1_5).trans ?_
  rw [culetlaw29_RefractionStraight.nat]
  have h4 : culetlaw29_RefractionStraight.K culetlaw29_awake refraction_Refract culetref28_One direction_Inside culetlaw29_meet a0_0 a0_1 a0_2 a0_3 a0_4 a0_5 a1_0 a1_1 a1_2 a1_3 a1_4 a1_5 id = true := h
  rw [h4]

end Go.Proofs.Ytphlckkbihmlnaa.G
