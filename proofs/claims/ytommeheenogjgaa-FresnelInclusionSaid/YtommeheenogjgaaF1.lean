/- The functions, their runs and their contracts. WRITTEN BY gen.py of this repo. -/
import Derived.Test.YtommeheenogjgaaS
import Derived.Test.YtommeheenogjgaaM
import Derived.Test.YtommeheenogjgaaIv
import Derived.Test.YtommeheenogjgaaFr
import Derived.Test.YtommeheenogjgaaF0
import Derived.Test.YtommeheenogjgaaExt
namespace Go.Proofs.Ytommeheenogjgaa.G
open Go Go.Proofs Go.RowKit RX
set_option linter.unusedVariables false
set_option linter.unusedSimpArgs false
/-! ### (*culet/culetref28.Calc).Div (48) -/
def culetref28_Calc_Div.K {R : Type} (f_culetref28_Calc_kept : Int → Int → Int → Int → (Int × Int × Int)) (f_culetref27_Div : Int → Int → Int → Int → (Int × Int × Int)) (s0_0 : Int) (a1_0 : Int) (a1_1 : Int) (a2_0 : Int) (a2_1 : Int) (k : Int × Int × Int → R) : R :=
  let t0 := f_culetref27_Div a1_0 a1_1 a2_0 a2_1
  let t1 := f_culetref28_Calc_kept s0_0 t0.fst t0.snd.fst t0.snd.snd
  k (t1.fst, t1.snd.fst, t1.snd.snd)
set_option maxRecDepth 100000 in
theorem culetref28_Calc_Div.run (f_culetref28_Calc_kept : Int → Int → Int → Int → (Int × Int × Int)) (f_culetref27_Div : Int → Int → Int → Int → (Int × Int × Int)) (s0_0 : Int) (a1_0 : Int) (a1_1 : Int) (a2_0 : Int) (a2_1 : Int) : xfn Try.prog ⟨[(55, culetref28_Calc_kept.sp f_culetref28_Calc_kept), (60, culetref27_Div.sp f_culetref27_Div)], []⟩ 40 Try.f48 [.pointer (some ⟨0, 0, none⟩), .agg ⟨[.int .i64 a1_0, .int .i64 a1_1]⟩, .agg ⟨[.int .i64 a2_0, .int .i64 a2_1]⟩] [.cs [.int .i64 s0_0] 48] = culetref28_Calc_Div.K f_culetref28_Calc_kept f_culetref27_Div s0_0 a1_0 a1_1 a2_0 a2_1 (fun r => some (.agg ⟨[.int .i64 r.1, .int .i64 r.2.1]⟩, [.cs [.int .i64 r.2.2] 48])) := by kernel_rfl
def culetref28_Calc_Div (s0_0 : Int) (a1_0 : Int) (a1_1 : Int) (a2_0 : Int) (a2_1 : Int) : Int × Int × Int := culetref28_Calc_Div.K culetref28_Calc_kept culetref27_Div s0_0 a1_0 a1_1 a2_0 a2_1 id
theorem culetref28_Calc_Div.nat {R : Type} (f_culetref28_Calc_kept : Int → Int → Int → Int → (Int × Int × Int)) (f_culetref27_Div : Int → Int → Int → Int → (Int × Int × Int)) (s0_0 : Int) (a1_0 : Int) (a1_1 : Int) (a2_0 : Int) (a2_1 : Int) (k : Int × Int × Int → R) : culetref28_Calc_Div.K f_culetref28_Calc_kept f_culetref27_Div s0_0 a1_0 a1_1 a2_0 a2_1 k = k (culetref28_Calc_Div.K f_culetref28_Calc_kept f_culetref27_Div s0_0 a1_0 a1_1 a2_0 a2_1 id) := by
  simp only [culetref28_Calc_Div.K, acond k, id_eq]
theorem culetref28_Calc_Div.ok : SOK Try.prog 48 (culetref28_Calc_Div.sp culetref28_Calc_Div) := by
  refine sok_of (E := ⟨[(55, culetref28_Calc_kept.sp culetref28_Calc_kept), (60, culetref27_Div.sp culetref27_Div)], []⟩) ⟨(specs_cons culetref28_Calc_kept.ok (specs_cons culetref27_Div.ok specs_nil)), inl_nil, mixed_ok⟩ 40 Try.func48 (by decide) rfl fun vs bl v bl' h => ?_
  unfold culetref28_Calc_Div.sp at h
  split at h
  · rename_i a1_0 a1_1 a2_0 a2_1 s0_0
    simp only [Option.some.injEq, Prod.mk.injEq, true_and] at h
    obtain ⟨rfl, rfl⟩ := h
    refine ⟨?_, by simp [okV, Nat.blt], clo_spec 8 _ (by kernel_rfl), told_blk (by kernel_rfl)⟩
    refine (culetref28_Calc_Div.run culetref28_Calc_kept culetref27_Div s0_0 a1_0 a1_1 a2_0 a2_1).trans ?_
    refine (culetref28_Calc_Div.nat culetref28_Calc_kept culetref27_Div s0_0 a1_0 a1_1 a2_0 a2_1 _).trans ?_
    kernel_rfl
  · cases h

/-! ### culet/culetref30.share (31) -/
def culetref30_share.K {R : Type} (f_culetref28_Calc_Add : Int → Int → Int → Int → Int → (Int × Int × Int)) (f_culetref30_Cut : Int → Int → (Int × Int)) (f_culetref28_Calc_Sub : Int → Int → Int → Int → Int → (Int × Int × Int)) (f_culetref28_Calc_Square : Int → Int → Int → (Int × Int × Int)) (f_culetref28_Calc_Div : Int → Int → Int → Int → Int → (Int × Int × Int)) (s0_0 : Int) (a1_0 : Int) (a1_1 : Int) (a2_0 : Int) (a2_1 : Int) (k : Int × Int × Int × Int → R) : R :=
  let t0 := f_culetref28_Calc_Sub s0_0 a1_0 a1_1 a2_0 a2_1
  let t1 := f_culetref28_Calc_Add t0.snd.snd a1_0 a1_1 a2_0 a2_1
  let t2 := f_culetref28_Calc_Div t1.snd.snd t0.fst t0.snd.fst t1.fst t1.snd.fst
  let t3 := f_culetref28_Calc_Square t2.snd.snd t2.fst t2.snd.fst
  bif t3.snd.snd != 0 then
    k (0, 0, t3.snd.snd, t3.snd.snd)
  else
    let t4 := f_culetref30_Cut t3.fst t3.snd.fst
    k (t4.fst, t4.snd, 0, t3.snd.snd)
set_option maxRecDepth 100000 in
theorem culetref30_share.run (f_culetref28_Calc_Add : Int → Int → Int → Int → Int → (Int × Int × Int)) (f_culetref30_Cut : Int → Int → (Int × Int)) (f_culetref28_Calc_Sub : Int → Int → Int → Int → Int → (Int × Int × Int)) (f_culetref28_Calc_Square : Int → Int → Int → (Int × Int × Int)) (f_culetref28_Calc_Div : Int → Int → Int → Int → Int → (Int × Int × Int)) (s0_0 : Int) (a1_0 : Int) (a1_1 : Int) (a2_0 : Int) (a2_1 : Int) : xfn Try.prog ⟨[(37, culetref28_Calc_Add.sp f_culetref28_Calc_Add), (38, culetref30_Cut.sp f_culetref30_Cut), (46, culetref28_Calc_Sub.sp f_culetref28_Calc_Sub), (47, culetref28_Calc_Square.sp f_culetref28_Calc_Square), (48, culetref28_Calc_Div.sp f_culetref28_Calc_Div)], []⟩ 40 Try.f31 [.pointer (some ⟨0, 0, none⟩), .agg ⟨[.int .i64 a1_0, .int .i64 a1_1]⟩, .agg ⟨[.int .i64 a2_0, .int .i64 a2_1]⟩] [.cs [.int .i64 s0_0] 48] = culetref30_share.K f_culetref28_Calc_Add f_culetref30_Cut f_culetref28_Calc_Sub f_culetref28_Calc_Square f_culetref28_Calc_Div s0_0 a1_0 a1_1 a2_0 a2_1 (fun r => some (.tuple ⟨[.agg ⟨[.int .i64 r.1, .int .i64 r.2.1]⟩, .int .i64 r.2.2.1]⟩, [.cs [.int .i64 r.2.2.2] 48])) := by kernel_rfl
def culetref30_share (s0_0 : Int) (a1_0 : Int) (a1_1 : Int) (a2_0 : Int) (a2_1 : Int) : Int × Int × Int × Int := culetref30_share.K culetref28_Calc_Add culetref30_Cut culetref28_Calc_Sub culetref28_Calc_Square culetref28_Calc_Div s0_0 a1_0 a1_1 a2_0 a2_1 id
theorem culetref30_share.nat {R : Type} (f_culetref28_Calc_Add : Int → Int → Int → Int → Int → (Int × Int × Int)) (f_culetref30_Cut : Int → Int → (Int × Int)) (f_culetref28_Calc_Sub : Int → Int → Int → Int → Int → (Int × Int × Int)) (f_culetref28_Calc_Square : Int → Int → Int → (Int × Int × Int)) (f_culetref28_Calc_Div : Int → Int → Int → Int → Int → (Int × Int × Int)) (s0_0 : Int) (a1_0 : Int) (a1_1 : Int) (a2_0 : Int) (a2_1 : Int) (k : Int × Int × Int × Int → R) : culetref30_share.K f_culetref28_Calc_Add f_culetref30_Cut f_culetref28_Calc_Sub f_culetref28_Calc_Square f_culetref28_Calc_Div s0_0 a1_0 a1_1 a2_0 a2_1 k = k (culetref30_share.K f_culetref28_Calc_Add f_culetref30_Cut f_culetref28_Calc_Sub f_culetref28_Calc_Square f_culetref28_Calc_Div s0_0 a1_0 a1_1 a2_0 a2_1 id) := by
  simp only [culetref30_share.K, acond k, id_eq]
theorem culetref30_share.eq (a b c d : Int) : ∃ e, culetref30_share 0 a b c d = ((shr a b c d).1, (shr a b c d).2.1, (shr a b c d).2.2, e) := by
  simp only [culetref30_share, culetref30_share.K, id_eq, culetref28_Calc_Sub, culetref28_Calc_Sub.K, culetref28_Calc_Add, culetref28_Calc_Add.K, culetref28_Calc_Div, culetref28_Calc_Div.K, culetref28_Calc_Square, culetref28_Calc_Square.K, kept_eq, culetref27_Sub.eq, culetref27_Add.eq, culetref27_Div.eq, culetref27_Square.eq, culetref30_Cut.eq, shr, fin, kp0]
  generalize isub a b c d = r1
  obtain ⟨x1, y1, e1⟩ := r1
  by_cases h1 : e1 = 0
  · subst h1
    rw [bnd_ok rfl, kp0]
    generalize iadd a b c d = r2
    obtain ⟨x2, y2, e2⟩ := r2
    by_cases h2 : e2 = 0
    · subst h2
      rw [bnd_ok rfl, kp0]
      simp only
      generalize idiv x1 y1 x2 y2 = r3
      obtain ⟨x3, y3, e3⟩ := r3
      by_cases h3 : e3 = 0
      · subst h3
        rw [bnd_ok rfl, kp0]
        simp only
        generalize isq x3 y3 = r4
        obtain ⟨x4, y4, e4⟩ := r4
        by_cases h4 : e4 = 0
        · subst h4
          exact ⟨_, rfl⟩
        · exact ⟨e4, by simp [bnd, bne_of h4]⟩
      · exact ⟨e3, by simp [bnd, kpn _ h3, bne_of h3]⟩
    · exact ⟨e2, by simp [bnd, kpn _ h2, bne_of h2]⟩
  · exact ⟨e1, by simp [bnd, kpn _ h1, bne_of h1]⟩
theorem culetref30_share.err {s : Int} (hs : s ≠ 0) (a b c d : Int) : culetref30_share s a b c d = (0, 0, s, s) := by
  simp only [culetref30_share, culetref30_share.K, id_eq, culetref28_Calc_Sub, culetref28_Calc_Sub.K, culetref28_Calc_Add, culetref28_Calc_Add.K, culetref28_Calc_Div, culetref28_Calc_Div.K, culetref28_Calc_Square, culetref28_Calc_Square.K, kept_eq, kpn _ hs]
  simp [bne_of hs]
theorem culetref30_share.ok : SOK Try.prog 31 (culetref30_share.sp culetref30_share) := by
  refine sok_of (E := ⟨[(37, culetref28_Calc_Add.sp culetref28_Calc_Add), (38, culetref30_Cut.sp culetref30_Cut), (46, culetref28_Calc_Sub.sp culetref28_Calc_Sub), (47, culetref28_Calc_Square.sp culetref28_Calc_Square), (48, culetref28_Calc_Div.sp culetref28_Calc_Div)], []⟩) ⟨(specs_cons culetref28_Calc_Add.ok (specs_cons culetref30_Cut.ok (specs_cons culetref28_Calc_Sub.ok (specs_cons culetref28_Calc_Square.ok (specs_cons culetref28_Calc_Div.ok specs_nil))))), inl_nil, mixed_ok⟩ 40 Try.func31 (by decide) rfl fun vs bl v bl' h => ?_
  unfold culetref30_share.sp at h
  split at h
  · rename_i a1_0 a1_1 a2_0 a2_1 s0_0
    simp only [Option.some.injEq, Prod.mk.injEq, true_and] at h
    obtain ⟨rfl, rfl⟩ := h
    refine ⟨?_, by simp [okV, Nat.blt], clo_spec 8 _ (by kernel_rfl), told_blk (by kernel_rfl)⟩
    refine (culetref30_share.run culetref28_Calc_Add culetref30_Cut culetref28_Calc_Sub culetref28_Calc_Square culetref28_Calc_Div s0_0 a1_0 a1_1 a2_0 a2_1).trans ?_
    refine (culetref30_share.nat culetref28_Calc_Add culetref30_Cut culetref28_Calc_Sub culetref28_Calc_Square culetref28_Calc_Div s0_0 a1_0 a1_1 a2_0 a2_1 _).trans ?_
    kernel_rfl
  · cases h

/-! ### culet/culetref30.Straight (11) -/
def culetref30_Straight.K {R : Type} (f_culetref30_between : Int → Int → Int → Int → (Bool)) (f_culetref30_share : Int → Int → Int → Int → Int → (Int × Int × Int × Int)) (a0_0 : Int) (a0_1 : Int) (a1_0 : Int) (a1_1 : Int) (k : Int × Int × Int → R) : R :=
  let t0 := f_culetref30_between a0_0 a0_1 1 4
  bif !t0 then
    k (0, 0, 1)
  else
    let t1 := f_culetref30_between a1_0 a1_1 1 4
    bif !t1 then
      k (0, 0, 1)
    else
      let t2 := f_culetref30_share 0 a0_0 a0_1 a1_0 a1_1
      k (t2.fst, t2.snd.fst, t2.snd.snd.fst)
set_option maxRecDepth 100000 in
theorem culetref30_Straight.run (f_culetref30_between : Int → Int → Int → Int → (Bool)) (f_culetref30_share : Int → Int → Int → Int → Int → (Int × Int × Int × Int)) (a0_0 : Int) (a0_1 : Int) (a1_0 : Int) (a1_1 : Int) : xfn Try.prog ⟨[(30, culetref30_between.sp f_culetref30_between), (31, culetref30_share.sp f_culetref30_share)], []⟩ 40 Try.f11 [.agg ⟨[.int .i64 a0_0, .int .i64 a0_1]⟩, .agg ⟨[.int .i64 a1_0, .int .i64 a1_1]⟩] [] = culetref30_Straight.K f_culetref30_between f_culetref30_share a0_0 a0_1 a1_0 a1_1 (fun r => some (.tuple ⟨[.agg ⟨[.int .i64 r.1, .int .i64 r.2.1]⟩, .int .i64 r.2.2]⟩, [])) := by kernel_rfl
def culetref30_Straight (a0_0 : Int) (a0_1 : Int) (a1_0 : Int) (a1_1 : Int) : Int × Int × Int := culetref30_Straight.K culetref30_between culetref30_share a0_0 a0_1 a1_0 a1_1 id
theorem culetref30_Straight.nat {R : Type} (f_culetref30_between : Int → Int → Int → Int → (Bool)) (f_culetref30_share : Int → Int → Int → Int → Int → (Int × Int × Int × Int)) (a0_0 : Int) (a0_1 : Int) (a1_0 : Int) (a1_1 : Int) (k : Int × Int × Int → R) : culetref30_Straight.K f_culetref30_between f_culetref30_share a0_0 a0_1 a1_0 a1_1 k = k (culetref30_Straight.K f_culetref30_between f_culetref30_share a0_0 a0_1 a1_0 a1_1 id) := by
  simp only [culetref30_Straight.K, acond k, id_eq]
theorem culetref30_Straight.eq (a b c d : Int) : culetref30_Straight a b c d = bif wn a b 1 4 && wn c d 1 4 then shr a b c d else (0, 0, 1) := by
  obtain ⟨e, h⟩ := culetref30_share.eq a b c d
  simp only [culetref30_Straight, culetref30_Straight.K, id_eq, h, culetref30_between.eq (k := 1) (l := 4) (by omega) (by omega) (by omega) (by omega)]
  cases wn a b 1 4 <;> cases wn c d 1 4 <;> rfl
theorem culetref30_Straight.ok : SOK Try.prog 11 (culetref30_Straight.sp culetref30_Straight) := by
  refine sok_of (E := ⟨[(30, culetref30_between.sp culetref30_between), (31, culetref30_share.sp culetref30_share)], []⟩) ⟨(specs_cons culetref30_between.ok (specs_cons culetref30_share.ok specs_nil)), inl_nil, mixed_ok⟩ 40 Try.func11 (by decide) rfl fun vs bl v bl' h => ?_
  unfold culetref30_Straight.sp at h
  split at h
  · rename_i a0_0 a0_1 a1_0 a1_1
    simp only [Option.some.injEq, Prod.mk.injEq, true_and] at h
    obtain ⟨rfl, rfl⟩ := h
    refine ⟨?_, by simp [okV, Nat.blt], clo_spec 8 _ (by kernel_rfl), told_blk (by kernel_rfl)⟩
    refine (culetref30_Straight.run culetref30_between culetref30_share a0_0 a0_1 a1_0 a1_1).trans ?_
    refine (culetref30_Straight.nat culetref30_between culetref30_share a0_0 a0_1 a1_0 a1_1 _).trans ?_
    kernel_rfl
  · cases h

/-! ### culet/culetlaw30.FresnelStraight (3) -/
def culetlaw30_FresnelStraight.K {R : Type} (f_culetlaw30_awake : (Bool)) (f_fresnel_Straight : Int → Int → Int → Int → (Int × Int × Int)) (f_culetref30_Straight : Int → Int → Int → Int → (Int × Int × Int)) (f_culetref28_One : (Int × Int)) (f_fresnel_Perpendicular : Int → Int → Int → Int → Int → Int → Int → Int → (Int × Int × Int)) (f_fresnel_Parallel : Int → Int → Int → Int → Int → Int → Int → Int → (Int × Int × Int)) (a0_0 : Int) (a0_1 : Int) (a1_0 : Int) (a1_1 : Int) (k : (Bool) → R) : R :=
  bif !f_culetlaw30_awake then
    k (false)
  else
    let t0 := f_fresnel_Straight a0_0 a0_1 a1_0 a1_1
    let t1 := f_culetref30_Straight a0_0 a0_1 a1_0 a1_1
    bif !(t0.fst == t1.fst && t0.snd.fst == t1.snd.fst) then
      k (false)
    else
      bif t0.snd.snd != t1.snd.snd then
        k (false)
      else
        let t2 := f_fresnel_Perpendicular f_culetref28_One.fst f_culetref28_One.snd f_culetref28_One.fst f_culetref28_One.snd a0_0 a0_1 a1_0 a1_1
        bif t2.fst == t0.fst && t2.snd.fst == t0.snd.fst then
          let t3 := f_fresnel_Parallel f_culetref28_One.fst f_culetref28_One.snd f_culetref28_One.fst f_culetref28_One.snd a0_0 a0_1 a1_0 a1_1
          bif t3.fst == t0.fst && t3.snd.fst == t0.snd.fst then
            bif t2.snd.snd == t0.snd.snd then
              bif t3.snd.snd == t0.snd.snd then
                bif t0.snd.snd != 0 then
                  k (true)
                else
                  bif !(a0_0 == a1_0 && a0_1 == a1_1) then
                    k (true)
                  else
                    bif a0_0 != a0_1 then
                      k (true)
                    else
                      k (t0.fst == 0 && t0.snd.fst == 0)
              else
                k (false)
            else
              k (false)
          else
            k (false)
        else
          k (false)
set_option maxRecDepth 100000 in
theorem culetlaw30_FresnelStraight.run (f_culetlaw30_awake : (Bool)) (f_fresnel_Straight : Int → Int → Int → Int → (Int × Int × Int)) (f_culetref30_Straight : Int → Int → Int → Int → (Int × Int × Int)) (f_culetref28_One : (Int × Int)) (f_fresnel_Perpendicular : Int → Int → Int → Int → Int → Int → Int → Int → (Int × Int × Int)) (f_fresnel_Parallel : Int → Int → Int → Int → Int → Int → Int → Int → (Int × Int × Int)) (a0_0 : Int) (a0_1 : Int) (a1_0 : Int) (a1_1 : Int) : xfn Try.prog ⟨[(9, culetlaw30_awake.sp f_culetlaw30_awake), (10, fresnel_Straight.sp f_fresnel_Straight), (11, culetref30_Straight.sp f_culetref30_Straight), (12, culetref28_One.sp f_culetref28_One), (13, fresnel_Perpendicular.sp f_fresnel_Perpendicular), (14, fresnel_Parallel.sp f_fresnel_Parallel)], []⟩ 40 Try.f3 [.agg ⟨[.int .i64 a0_0, .int .i64 a0_1]⟩, .agg ⟨[.int .i64 a1_0, .int .i64 a1_1]⟩] [] = culetlaw30_FresnelStraight.K f_culetlaw30_awake f_fresnel_Straight f_culetref30_Straight f_culetref28_One f_fresnel_Perpendicular f_fresnel_Parallel a0_0 a0_1 a1_0 a1_1 (fun r => some (.bool r, [])) := by kernel_rfl
def culetlaw30_FresnelStraight (a0_0 : Int) (a0_1 : Int) (a1_0 : Int) (a1_1 : Int) : Bool := culetlaw30_FresnelStraight.K culetlaw30_awake fresnel_Straight culetref30_Straight culetref28_One fresnel_Perpendicular fresnel_Parallel a0_0 a0_1 a1_0 a1_1 id
theorem culetlaw30_FresnelStraight.nat {R : Type} (f_culetlaw30_awake : (Bool)) (f_fresnel_Straight : Int → Int → Int → Int → (Int × Int × Int)) (f_culetref30_Straight : Int → Int → Int → Int → (Int × Int × Int)) (f_culetref28_One : (Int × Int)) (f_fresnel_Perpendicular : Int → Int → Int → Int → Int → Int → Int → Int → (Int × Int × Int)) (f_fresnel_Parallel : Int → Int → Int → Int → Int → Int → Int → Int → (Int × Int × Int)) (a0_0 : Int) (a0_1 : Int) (a1_0 : Int) (a1_1 : Int) (k : (Bool) → R) : culetlaw30_FresnelStraight.K f_culetlaw30_awake f_fresnel_Straight f_culetref30_Straight f_culetref28_One f_fresnel_Perpendicular f_fresnel_Parallel a0_0 a0_1 a1_0 a1_1 k = k (culetlaw30_FresnelStraight.K f_culetlaw30_awake f_fresnel_Straight f_culetref30_Straight f_culetref28_One f_fresnel_Perpendicular f_fresnel_Parallel a0_0 a0_1 a1_0 a1_1 id) := by
  simp only [culetlaw30_FresnelStraight.K, acond k, id_eq]
theorem FresnelStraight.law (a b c d : Int) : culetlaw30_FresnelStraight a b c d = true := by
  have o : culetref28_One = (16777216, 16777216) := rfl
  simp only [culetlaw30_FresnelStraight, culetlaw30_FresnelStraight.K, id_eq, awake_true, o, fresnel_Straight.eq, culetref30_Straight.eq, fresnel_Perpendicular.eq, fresnel_Parallel.eq, pol_one]
  by_cases h : a = c ∧ b = d ∧ a = b
  · obtain ⟨rfl, rfl, rfl⟩ := h
    cases hw : wn a a 1 4 with
    | false => rfl
    | true =>
      have := wn_iff.1 hw
      simp only [Bool.and_self, cond_true, shr_same (a := a) (by omega) (by omega)]
      simp
  · generalize (bif wn a b 1 4 && wn c d 1 4 then shr a b c d else (0, 0, 1)) = r
    by_cases h1 : a = c <;> by_cases h2 : b = d <;> by_cases h3 : a = b <;> simp_all
theorem culetlaw30_FresnelStraight.calls (a0_0 : Int) (a0_1 : Int) (a1_0 : Int) (a1_1 : Int) (h : culetlaw30_FresnelStraight a0_0 a0_1 a1_0 a1_1 = true) (w : World) : Calls Try.prog 3 ⟨[.agg ⟨[.int .i64 a0_0, .int .i64 a0_1]⟩, .agg ⟨[.int .i64 a1_0, .int .i64 a1_1]⟩]⟩ w fun e w' => e = .returned (.bool true) ∧ Below w.heap.size w w' := by
  refine calls_run (E := ⟨[(9, culetlaw30_awake.sp culetlaw30_awake), (10, fresnel_Straight.sp fresnel_Straight), (11, culetref30_Straight.sp culetref30_Straight), (12, culetref28_One.sp culetref28_One), (13, fresnel_Perpendicular.sp fresnel_Perpendicular), (14, fresnel_Parallel.sp fresnel_Parallel)], []⟩) ⟨(specs_cons culetlaw30_awake.ok (specs_cons fresnel_Straight.ok (specs_cons culetref30_Straight.ok (specs_cons culetref28_One.ok (specs_cons fresnel_Perpendicular.ok (specs_cons fresnel_Parallel.ok specs_nil)))))), inl_nil, mixed_ok⟩ 40 Try.func3 (by decide) rfl (vs := [.agg ⟨[.int .i64 a0_0, .int .i64 a0_1]⟩, .agg ⟨[.int .i64 a1_0, .int .i64 a1_1]⟩]) (v := .bool true) ?_ (by simp [okV, Nat.blt]) (clo_spec 8 _ rfl) w
  refine (culetlaw30_FresnelStraight.run culetlaw30_awake fresnel_Straight culetref30_Straight culetref28_One fresnel_Perpendicular fresnel_Parallel a0_0 a0_1 a1_0 a1_1).trans ?_
  rw [culetlaw30_FresnelStraight.nat]
  have h4 : culetlaw30_FresnelStraight.K culetlaw30_awake fresnel_Straight culetref30_Straight culetref28_One fresnel_Perpendicular fresnel_Parallel a0_0 a0_1 a1_0 a1_1 id = true := h
  rw [h4]

/-! ### culet/culetlaw30.FresnelGrazing (4) -/
def culetlaw30_FresnelGrazing.K {R : Type} (f_culetlaw30_awake : (Bool)) (f_fresnel_Reflectance : Int → Int → Int → Int → Int → Int → Int → Int → (Int × Int × Int)) (a0_0 : Int) (a0_1 : Int) (a0_2 : Int) (a0_3 : Int) (a0_4 : Int) (a0_5 : Int) (a0_6 : Int) (a0_7 : Int) (k : (Bool) → R) : R :=
  bif !f_culetlaw30_awake then
    k (false)
  else
    let t0 := f_fresnel_Reflectance 0 0 a0_2 a0_3 a0_4 a0_5 a0_6 a0_7
    bif t0.snd.snd != 0 then
      bif t0.snd.snd == 1 then
        k (true)
      else
        bif t0.snd.snd == 3 then
          k (true)
        else
          k (a0_2 == 0)
    else
      bif decide (t0.fst ≤ 16777216) then
        k (t0.snd.fst == 16777216)
      else
        k (false)
set_option maxRecDepth 100000 in
theorem culetlaw30_FresnelGrazing.run (f_culetlaw30_awake : (Bool)) (f_fresnel_Reflectance : Int → Int → Int → Int → Int → Int → Int → Int → (Int × Int × Int)) (a0_0 : Int) (a0_1 : Int) (a0_2 : Int) (a0_3 : Int) (a0_4 : Int) (a0_5 : Int) (a0_6 : Int) (a0_7 : Int) : xfn Try.prog ⟨[(9, culetlaw30_awake.sp f_culetlaw30_awake), (15, fresnel_Reflectance.sp f_fresnel_Reflectance)], []⟩ 40 Try.f4 [.agg ⟨[.int .i64 a0_0, .int .i64 a0_1, .int .i64 a0_2, .int .i64 a0_3, .int .i64 a0_4, .int .i64 a0_5, .int .i64 a0_6, .int .i64 a0_7]⟩] [] = culetlaw30_FresnelGrazing.K f_culetlaw30_awake f_fresnel_Reflectance a0_0 a0_1 a0_2 a0_3 a0_4 a0_5 a0_6 a0_7 (fun r => some (.bool r, [])) := by kernel_rfl
def culetlaw30_FresnelGrazing (a0_0 : Int) (a0_1 : Int) (a0_2 : Int) (a0_3 : Int) (a0_4 : Int) (a0_5 : Int) (a0_6 : Int) (a0_7 : Int) : Bool := culetlaw30_FresnelGrazing.K culetlaw30_awake fresnel_Reflectance a0_0 a0_1 a0_2 a0_3 a0_4 a0_5 a0_6 a0_7 id
theorem culetlaw30_FresnelGrazing.nat {R : Type} (f_culetlaw30_awake : (Bool)) (f_fresnel_Reflectance : Int → Int → Int → Int → Int → Int → Int → Int → (Int × Int × Int)) (a0_0 : Int) (a0_1 : Int) (a0_2 : Int) (a0_3 : Int) (a0_4 : Int) (a0_5 : Int) (a0_6 : Int) (a0_7 : Int) (k : (Bool) → R) : culetlaw30_FresnelGrazing.K f_culetlaw30_awake f_fresnel_Reflectance a0_0 a0_1 a0_2 a0_3 a0_4 a0_5 a0_6 a0_7 k = k (culetlaw30_FresnelGrazing.K f_culetlaw30_awake f_fresnel_Reflectance a0_0 a0_1 a0_2 a0_3 a0_4 a0_5 a0_6 a0_7 id) := by
  simp only [culetlaw30_FresnelGrazing.K, acond k, id_eq]
theorem FresnelGrazing.law (a0 a1 a2 a3 a4 a5 a6 a7 : Int) : culetlaw30_FresnelGrazing a0 a1 a2 a3 a4 a5 a6 a7 = true := by
  simp only [culetlaw30_FresnelGrazing, culetlaw30_FresnelGrazing.K, id_eq, awake_true, fresnel_Reflectance.eq]
  rcases refl_graze (a2 := a2) (a3 := a3) (a4 := a4) (a5 := a5) (a6 := a6) (a7 := a7) with ⟨h1, h2⟩ | ⟨h1, h2, h3⟩
  · rcases h2 with h | h | h
    · simp [h]
    · simp [h]
    · subst h
      have hb : ((refl 0 0 0 a3 a4 a5 a6 a7).2.2 != 0) = true := bne_of h1
      simp only [hb, cond_true, Bool.not_true, cond_false]
      cases (refl 0 0 0 a3 a4 a5 a6 a7).2.2 == 1 <;> cases (refl 0 0 0 a3 a4 a5 a6 a7).2.2 == 3 <;> rfl
  · simp [h1, h2, h3]
theorem culetlaw30_FresnelGrazing.calls (a0_0 : Int) (a0_1 : Int) (a0_2 : Int) (a0_3 : Int) (a0_4 : Int) (a0_5 : Int) (a0_6 : Int) (a0_7 : Int) (h : culetlaw30_FresnelGrazing a0_0 a0_1 a0_2 a0_3 a0_4 a0_5 a0_6 a0_7 = true) (w : World) : Calls Try.prog 4 ⟨[.agg ⟨[.int .i64 a0_0, .int .i64 a0_1, .int .i64 a0_2, .int .i64 a0_3, .int .i64 a0_4, .int .i64 a0_5, .int .i64 a0_6, .int .i64 a0_7]⟩]⟩ w fun e w' => e = .returned (.bool true) ∧ Below w.heap.size w w' := by
  refine calls_run (E := ⟨[(9, culetlaw30_awake.sp culetlaw30_awake), (15, fresnel_Reflectance.sp fresnel_Reflectance)], []⟩) ⟨(specs_cons culetlaw30_awake.ok (specs_cons fresnel_Reflectance.ok specs_nil)), inl_nil, mixed_ok⟩ 40 Try.func4 (by decide) rfl (vs := [.agg ⟨[.int .i64 a0_0, .int .i64 a0_1, .int .i64 a0_2, .int .i64 a0_3, .int .i64 a0_4, .int .i64 a0_5, .int .i64 a0_6, .int .i64 a0_7]⟩]) (v := .bool true) ?_ (by simp [okV, Nat.blt]) (clo_spec 8 _ rfl) w
  refine (culetlaw30_FresnelGrazing.run culetlaw30_awake fresnel_Reflectance a0_0 a0_1 a0_2 a0_3 a0_4 a0_5 a0_6 a0_7).trans ?_
  rw [culetlaw30_FresnelGrazing.nat]
  have h4 : culetlaw30_FresnelGrazing.K culetlaw30_awake fresnel_Reflectance a0_0 a0_1 a0_2 a0_3 a0_4 a0_5 a0_6 a0_7 id = true := h
  rw [h4]

/-! ### culet/fresnel.Turn (16) -/
def fresnel_Turn.K {R : Type} (a0_0 : Int) (a0_1 : Int) (a0_2 : Int) (a0_3 : Int) (a0_4 : Int) (a0_5 : Int) (a0_6 : Int) (a0_7 : Int) (k : Int × Int × Int × Int × Int × Int × Int × Int → R) : R :=
  k (a0_2, a0_3, a0_0, a0_1, a0_6, a0_7, a0_4, a0_5)
set_option maxRecDepth 100000 in
theorem fresnel_Turn.run (a0_0 : Int) (a0_1 : Int) (a0_2 : Int) (a0_3 : Int) (a0_4 : Int) (a0_5 : Int) (a0_6 : Int) (a0_7 : Int) : xfn Try.prog ⟨[], []⟩ 40 Try.f16 [.agg ⟨[.int .i64 a0_0, .int .i64 a0_1, .int .i64 a0_2, .int .i64 a0_3, .int .i64 a0_4, .int .i64 a0_5, .int .i64 a0_6, .int .i64 a0_7]⟩] [] = fresnel_Turn.K a0_0 a0_1 a0_2 a0_3 a0_4 a0_5 a0_6 a0_7 (fun r => some (.agg ⟨[.int .i64 r.1, .int .i64 r.2.1, .int .i64 r.2.2.1, .int .i64 r.2.2.2.1, .int .i64 r.2.2.2.2.1, .int .i64 r.2.2.2.2.2.1, .int .i64 r.2.2.2.2.2.2.1, .int .i64 r.2.2.2.2.2.2.2]⟩, [])) := by kernel_rfl
def fresnel_Turn (a0_0 : Int) (a0_1 : Int) (a0_2 : Int) (a0_3 : Int) (a0_4 : Int) (a0_5 : Int) (a0_6 : Int) (a0_7 : Int) : Int × Int × Int × Int × Int × Int × Int × Int := fresnel_Turn.K a0_0 a0_1 a0_2 a0_3 a0_4 a0_5 a0_6 a0_7 id
theorem fresnel_Turn.nat {R : Type} (a0_0 : Int) (a0_1 : Int) (a0_2 : Int) (a0_3 : Int) (a0_4 : Int) (a0_5 : Int) (a0_6 : Int) (a0_7 : Int) (k : Int × Int × Int × Int × Int × Int × Int × Int → R) : fresnel_Turn.K a0_0 a0_1 a0_2 a0_3 a0_4 a0_5 a0_6 a0_7 k = k (fresnel_Turn.K a0_0 a0_1 a0_2 a0_3 a0_4 a0_5 a0_6 a0_7 id) := by
  simp only [fresnel_Turn.K, acond k, id_eq]
theorem fresnel_Turn.ok : SOK Try.prog 16 (fresnel_Turn.sp fresnel_Turn) := by
  refine sok_of (E := ⟨[], []⟩) ⟨specs_nil, inl_nil, mixed_ok⟩ 40 Try.func16 (by decide) rfl fun vs bl v bl' h => ?_
  unfold fresnel_Turn.sp at h
  split at h
  · rename_i a0_0 a0_1 a0_2 a0_3 a0_4 a0_5 a0_6 a0_7
    simp only [Option.some.injEq, Prod.mk.injEq, true_and] at h
    obtain ⟨rfl, rfl⟩ := h
    refine ⟨?_, by simp [okV, Nat.blt], clo_spec 8 _ (by kernel_rfl), told_blk (by kernel_rfl)⟩
    refine (fresnel_Turn.run a0_0 a0_1 a0_2 a0_3 a0_4 a0_5 a0_6 a0_7).trans ?_
    refine (fresnel_Turn.nat a0_0 a0_1 a0_2 a0_3 a0_4 a0_5 a0_6 a0_7 _).trans ?_
    kernel_rfl
  · cases h

/-! ### culet/culetlaw30.FresnelTurned (5) -/
def culetlaw30_FresnelTurned.K {R : Type} (f_culetlaw30_awake : (Bool)) (f_fresnel_Perpendicular : Int → Int → Int → Int → Int → Int → Int → Int → (Int × Int × Int)) (f_fresnel_Parallel : Int → Int → Int → Int → Int → Int → Int → Int → (Int × Int × Int)) (f_fresnel_Turn : Int → Int → Int → Int → Int → Int → Int → Int → (Int × Int × Int × Int × Int × Int × Int × Int)) (a0_0 : Int) (a0_1 : Int) (a0_2 : Int) (a0_3 : Int) (a0_4 : Int) (a0_5 : Int) (a0_6 : Int) (a0_7 : Int) (k : (Bool) → R) : R :=
  bif !f_culetlaw30_awake then
    k (false)
  else
    let t0 := f_fresnel_Turn a0_0 a0_1 a0_2 a0_3 a0_4 a0_5 a0_6 a0_7
    let t1 := f_fresnel_Turn t0.fst t0.snd.fst t0.snd.snd.fst t0.snd.snd.snd.fst t0.snd.snd.snd.snd.fst t0.snd.snd.snd.snd.snd.fst t0.snd.snd.snd.snd.snd.snd.fst t0.snd.snd.snd.snd.snd.snd.snd
    bif t1.fst == a0_0 && t1.snd.fst == a0_1 && (t1.snd.snd.fst == a0_2 && t1.snd.snd.snd.fst == a0_3 && (t1.snd.snd.snd.snd.fst == a0_4 && t1.snd.snd.snd.snd.snd.fst == a0_5 && (t1.snd.snd.snd.snd.snd.snd.fst == a0_6 && t1.snd.snd.snd.snd.snd.snd.snd == a0_7))) then
      let t2 := f_fresnel_Perpendicular a0_0 a0_1 a0_2 a0_3 a0_4 a0_5 a0_6 a0_7
      let t3 := f_fresnel_Perpendicular t0.fst t0.snd.fst t0.snd.snd.fst t0.snd.snd.snd.fst t0.snd.snd.snd.snd.fst t0.snd.snd.snd.snd.snd.fst t0.snd.snd.snd.snd.snd.snd.fst t0.snd.snd.snd.snd.snd.snd.snd
      bif t2.fst == t3.fst && t2.snd.fst == t3.snd.fst then
        bif t2.snd.snd == t3.snd.snd then
          let t4 := f_fresnel_Parallel a0_0 a0_1 a0_2 a0_3 a0_4 a0_5 a0_6 a0_7
          let t5 := f_fresnel_Parallel t0.fst t0.snd.fst t0.snd.snd.fst t0.snd.snd.snd.fst t0.snd.snd.snd.snd.fst t0.snd.snd.snd.snd.snd.fst t0.snd.snd.snd.snd.snd.snd.fst t0.snd.snd.snd.snd.snd.snd.snd
          bif t4.fst == t5.fst && t4.snd.fst == t5.snd.fst then
            k (t4.snd.snd == t5.snd.snd)
          else
            k (false)
        else
          k (false)
      else
        k (false)
    else
      k (false)
set_option maxRecDepth 100000 in
theorem culetlaw30_FresnelTurned.run (f_culetlaw30_awake : (Bool)) (f_fresnel_Perpendicular : Int → Int → Int → Int → Int → Int → Int → Int → (Int × Int × Int)) (f_fresnel_Parallel : Int → Int → Int → Int → Int → Int → Int → Int → (Int × Int × Int)) (f_fresnel_Turn : Int → Int → Int → Int → Int → Int → Int → Int → (Int × Int × Int × Int × Int × Int × Int × Int)) (a0_0 : Int) (a0_1 : Int) (a0_2 : Int) (a0_3 : Int) (a0_4 : Int) (a0_5 : Int) (a0_6 : Int) (a0_7 : Int) : xfn Try.prog ⟨[(9, culetlaw30_awake.sp f_culetlaw30_awake), (13, fresnel_Perpendicular.sp f_fresnel_Perpendicular), (14, fresnel_Parallel.sp f_fresnel_Parallel), (16, fresnel_Turn.sp f_fresnel_Turn)], []⟩ 40 Try.f5 [.agg ⟨[.int .i64 a0_0, .int .i64 a0_1, .int .i64 a0_2, .int .i64 a0_3, .int .i64 a0_4, .int .i64 a0_5, .int .i64 a0_6, .int .i64 a0_7]⟩] [] = culetlaw30_FresnelTurned.K f_culetlaw30_awake f_fresnel_Perpendicular f_fresnel_Parallel f_fresnel_Turn a0_0 a0_1 a0_2 a0_3 a0_4 a0_5 a0_6 a0_7 (fun r => some (.bool r, [])) := by kernel_rfl
def culetlaw30_FresnelTurned (a0_0 : Int) (a0_1 : Int) (a0_2 : Int) (a0_3 : Int) (a0_4 : Int) (a0_5 : Int) (a0_6 : Int) (a0_7 : Int) : Bool := culetlaw30_FresnelTurned.K culetlaw30_awake fresnel_Perpendicular fresnel_Parallel fresnel_Turn a0_0 a0_1 a0_2 a0_3 a0_4 a0_5 a0_6 a0_7 id
theorem culetlaw30_FresnelTurned.nat {R : Type} (f_culetlaw30_awake : (Bool)) (f_fresnel_Perpendicular : Int → Int → Int → Int → Int → Int → Int → Int → (Int × Int × Int)) (f_fresnel_Parallel : Int → Int → Int → Int → Int → Int → Int → Int → (Int × Int × Int)) (f_fresnel_Turn : Int → Int → Int → Int → Int → Int → Int → Int → (Int × Int × Int × Int × Int × Int × Int × Int)) (a0_0 : Int) (a0_1 : Int) (a0_2 : Int) (a0_3 : Int) (a0_4 : Int) (a0_5 : Int) (a0_6 : Int) (a0_7 : Int) (k : (Bool) → R) : culetlaw30_FresnelTurned.K f_culetlaw30_awake f_fresnel_Perpendicular f_fresnel_Parallel f_fresnel_Turn a0_0 a0_1 a0_2 a0_3 a0_4 a0_5 a0_6 a0_7 k = k (culetlaw30_FresnelTurned.K f_culetlaw30_awake f_fresnel_Perpendicular f_fresnel_Parallel f_fresnel_Turn a0_0 a0_1 a0_2 a0_3 a0_4 a0_5 a0_6 a0_7 id) := by
  simp only [culetlaw30_FresnelTurned.K, acond k, id_eq]
theorem FresnelTurned.law (a0 a1 a2 a3 a4 a5 a6 a7 : Int) : culetlaw30_FresnelTurned a0 a1 a2 a3 a4 a5 a6 a7 = true := by
  have t : ∀ b0 b1 b2 b3 b4 b5 b6 b7, fresnel_Turn b0 b1 b2 b3 b4 b5 b6 b7 = (b2, b3, b0, b1, b6, b7, b4, b5) := fun _ _ _ _ _ _ _ _ => rfl
  simp only [culetlaw30_FresnelTurned, culetlaw30_FresnelTurned.K, id_eq, awake_true, fresnel_Perpendicular.eq, fresnel_Parallel.eq, t]
  have e1 : pol a2 a3 a0 a1 a6 a7 a4 a5 a2 a3 a0 a1 = pol a0 a1 a2 a3 a4 a5 a6 a7 a0 a1 a2 a3 := by
    cases h : srf a0 a1 a2 a3 a4 a5 a6 a7 with
    | false => exact pol_turn (.inr h) (.inr h)
    | true =>
      have := srf_iff.1 h
      exact pol_turn (.inl this.1) (.inl this.2.1)
  have e2 : pol a2 a3 a0 a1 a6 a7 a4 a5 a0 a1 a2 a3 = pol a0 a1 a2 a3 a4 a5 a6 a7 a2 a3 a0 a1 := by
    cases h : srf a0 a1 a2 a3 a4 a5 a6 a7 with
    | false => exact pol_turn (.inr h) (.inr h)
    | true =>
      have := srf_iff.1 h
      exact pol_turn (.inl this.2.1) (.inl this.1)
  rw [e1, e2]
  simp
theorem culetlaw30_FresnelTurned.calls (a0_0 : Int) (a0_1 : Int) (a0_2 : Int) (a0_3 : Int) (a0_4 : Int) (a0_5 : Int) (a0_6 : Int) (a0_7 : Int) (h : culetlaw30_FresnelTurned a0_0 a0_1 a0_2 a0_3 a0_4 a0_5 a0_6 a0_7 = true) (w : World) : Calls Try.prog 5 ⟨[.agg ⟨[.int .i64 a0_0, .int .i64 a0_1, .int .i64 a0_2, .int .i64 a0_3, .int .i64 a0_4, .int .i64 a0_5, .int .i64 a0_6, .int .i64 a0_7]⟩]⟩ w fun e w' => e = .returned (.bool true) ∧ Below w.heap.size w w' := by
  refine calls_run (E := ⟨[(9, culetlaw30_awake.sp culetlaw30_awake), (13, fresnel_Perpendicular.sp fresnel_Perpendicular), (14, fresnel_Parallel.sp fresnel_Parallel), (16, fresnel_Turn.sp fresnel_Turn)], []⟩) ⟨(specs_cons culetlaw30_awake.ok (specs_cons fresnel_Perpendicular.ok (specs_cons fresnel_Parallel.ok (specs_cons fresnel_Turn.ok specs_nil)))), inl_nil, mixed_ok⟩ 40 Try.func5 (by decide) rfl (vs := [.agg ⟨[.int .i64 a0_0, .int .i64 a0_1, .int .i64 a0_2, .int .i64 a0_3, .int .i64 a0_4, .int .i64 a0_5, .int .i64 a0_6, .int .i64 a0_7]⟩]) (v := .bool true) ?_ (by simp [okV, Nat.blt]) (clo_spec 8 _ rfl) w
  refine (culetlaw30_FresnelTurned.run culetlaw30_awake fresnel_Perpendicular fresnel_Parallel fresnel_Turn a0_0 a0_1 a0_2 a0_3 a0_4 a0_5 a0_6 a0_7).trans ?_
  rw [culetlaw30_FresnelTurned.nat]
  have h4 : culetlaw30_FresnelTurned.K culetlaw30_awake fresnel_Perpendicular fresnel_Parallel fresnel_Turn a0_0 a0_1 a0_2 a0_3 a0_4 a0_5 a0_6 a0_7 id = true := h
  rw [h4]

/-! ### culet/culetref30.Valid (20) -/
def culetref30_Valid.K {R : Type} (f_culetref30_between : Int → Int → Int → Int → (Bool)) (a0_0 : Int) (a0_1 : Int) (a0_2 : Int) (a0_3 : Int) (a0_4 : Int) (a0_5 : Int) (a0_6 : Int) (a0_7 : Int) (k : (Bool) → R) : R :=
  let t0 := f_culetref30_between a0_0 a0_1 0 1
  bif t0 then
    let t1 := f_culetref30_between a0_2 a0_3 0 1
    bif t1 then
      let t2 := f_culetref30_between a0_4 a0_5 1 4
      bif t2 then
        let t3 := f_culetref30_between a0_6 a0_7 1 4
        k (t3)
      else
        k (false)
    else
      k (false)
  else
    k (false)
set_option maxRecDepth 100000 in
theorem culetref30_Valid.run (f_culetref30_between : Int → Int → Int → Int → (Bool)) (a0_0 : Int) (a0_1 : Int) (a0_2 : Int) (a0_3 : Int) (a0_4 : Int) (a0_5 : Int) (a0_6 : Int) (a0_7 : Int) : xfn Try.prog ⟨[(30, culetref30_between.sp f_culetref30_between)], []⟩ 40 Try.f20 [.agg ⟨[.int .i64 a0_0, .int .i64 a0_1, .int .i64 a0_2, .int .i64 a0_3, .int .i64 a0_4, .int .i64 a0_5, .int .i64 a0_6, .int .i64 a0_7]⟩] [] = culetref30_Valid.K f_culetref30_between a0_0 a0_1 a0_2 a0_3 a0_4 a0_5 a0_6 a0_7 (fun r => some (.bool r, [])) := by kernel_rfl
def culetref30_Valid (a0_0 : Int) (a0_1 : Int) (a0_2 : Int) (a0_3 : Int) (a0_4 : Int) (a0_5 : Int) (a0_6 : Int) (a0_7 : Int) : Bool := culetref30_Valid.K culetref30_between a0_0 a0_1 a0_2 a0_3 a0_4 a0_5 a0_6 a0_7 id
theorem culetref30_Valid.nat {R : Type} (f_culetref30_between : Int → Int → Int → Int → (Bool)) (a0_0 : Int) (a0_1 : Int) (a0_2 : Int) (a0_3 : Int) (a0_4 : Int) (a0_5 : Int) (a0_6 : Int) (a0_7 : Int) (k : (Bool) → R) : culetref30_Valid.K f_culetref30_between a0_0 a0_1 a0_2 a0_3 a0_4 a0_5 a0_6 a0_7 k = k (culetref30_Valid.K f_culetref30_between a0_0 a0_1 a0_2 a0_3 a0_4 a0_5 a0_6 a0_7 id) := by
  simp only [culetref30_Valid.K, acond k, id_eq]
theorem culetref30_Valid.eq (a0 a1 a2 a3 a4 a5 a6 a7 : Int) : culetref30_Valid a0 a1 a2 a3 a4 a5 a6 a7 = srf a0 a1 a2 a3 a4 a5 a6 a7 := by
  simp only [culetref30_Valid, culetref30_Valid.K, id_eq, srf, culetref30_between.eq (k := 1) (l := 4) (by omega) (by omega) (by omega) (by omega), culetref30_between.eq (k := 0) (l := 1) (by omega) (by omega) (by omega) (by omega)]
  cases wn a0 a1 0 1 <;> cases wn a2 a3 0 1 <;> cases wn a4 a5 1 4 <;> rfl
theorem culetref30_Valid.ok : SOK Try.prog 20 (culetref30_Valid.sp culetref30_Valid) := by
  refine sok_of (E := ⟨[(30, culetref30_between.sp culetref30_between)], []⟩) ⟨(specs_cons culetref30_between.ok specs_nil), inl_nil, mixed_ok⟩ 40 Try.func20 (by decide) rfl fun vs bl v bl' h => ?_
  unfold culetref30_Valid.sp at h
  split at h
  · rename_i a0_0 a0_1 a0_2 a0_3 a0_4 a0_5 a0_6 a0_7
    simp only [Option.some.injEq, Prod.mk.injEq, true_and] at h
    obtain ⟨rfl, rfl⟩ := h
    refine ⟨?_, by simp [okV, Nat.blt], clo_spec 8 _ (by kernel_rfl), told_blk (by kernel_rfl)⟩
    refine (culetref30_Valid.run culetref30_between a0_0 a0_1 a0_2 a0_3 a0_4 a0_5 a0_6 a0_7).trans ?_
    refine (culetref30_Valid.nat culetref30_between a0_0 a0_1 a0_2 a0_3 a0_4 a0_5 a0_6 a0_7 _).trans ?_
    kernel_rfl
  · cases h

/-! ### culet/culetref27.Mul (56) -/
def culetref27_Mul.K {R : Type} (f_culetref27_both : Int → Int → Int → Int → (Bool)) (f_culetref27_checked : Int → Int → (Int × Int × Int)) (f_culetref27_floor : Int → Int → (Int)) (f_culetref27_ceil : Int → Int → (Int)) (a0_0 : Int) (a0_1 : Int) (a1_0 : Int) (a1_1 : Int) (k : Int × Int × Int → R) : R :=
  let t0 := f_culetref27_both a0_0 a0_1 a1_0 a1_1
  bif !t0 then
    k (0, 0, 1)
  else
    let t1 := f_culetref27_floor (if IntKind.i64.wrap (a0_1 * a1_1) < if IntKind.i64.wrap (a0_1 * a1_0) < if IntKind.i64.wrap (a0_0 * a1_1) < IntKind.i64.wrap (a0_0 * a1_0) then IntKind.i64.wrap (a0_0 * a1_1) else IntKind.i64.wrap (a0_0 * a1_0) then IntKind.i64.wrap (a0_1 * a1_0) else if IntKind.i64.wrap (a0_0 * a1_1) < IntKind.i64.wrap (a0_0 * a1_0) then IntKind.i64.wrap (a0_0 * a1_1) else IntKind.i64.wrap (a0_0 * a1_0) then IntKind.i64.wrap (a0_1 * a1_1) else if IntKind.i64.wrap (a0_1 * a1_0) < if IntKind.i64.wrap (a0_0 * a1_1) < IntKind.i64.wrap (a0_0 * a1_0) then IntKind.i64.wrap (a0_0 * a1_1) else IntKind.i64.wrap (a0_0 * a1_0) then IntKind.i64.wrap (a0_1 * a1_0) else if IntKind.i64.wrap (a0_0 * a1_1) < IntKind.i64.wrap (a0_0 * a1_0) then IntKind.i64.wrap (a0_0 * a1_1) else IntKind.i64.wrap (a0_0 * a1_0)) 16777216
    let t2 := f_culetref27_ceil (if IntKind.i64.wrap (a0_1 * a1_1) > if IntKind.i64.wrap (a0_1 * a1_0) > if IntKind.i64.wrap (a0_0 * a1_1) > IntKind.i64.wrap (a0_0 * a1_0) then IntKind.i64.wrap (a0_0 * a1_1) else IntKind.i64.wrap (a0_0 * a1_0) then IntKind.i64.wrap (a0_1 * a1_0) else if IntKind.i64.wrap (a0_0 * a1_1) > IntKind.i64.wrap (a0_0 * a1_0) then IntKind.i64.wrap (a0_0 * a1_1) else IntKind.i64.wrap (a0_0 * a1_0) then IntKind.i64.wrap (a0_1 * a1_1) else if IntKind.i64.wrap (a0_1 * a1_0) > if IntKind.i64.wrap (a0_0 * a1_1) > IntKind.i64.wrap (a0_0 * a1_0) then IntKind.i64.wrap (a0_0 * a1_1) else IntKind.i64.wrap (a0_0 * a1_0) then IntKind.i64.wrap (a0_1 * a1_0) else if IntKind.i64.wrap (a0_0 * a1_1) > IntKind.i64.wrap (a0_0 * a1_0) then IntKind.i64.wrap (a0_0 * a1_1) else IntKind.i64.wrap (a0_0 * a1_0)) 16777216
    let t3 := f_culetref27_checked t1 t2
    k (t3.fst, t3.snd.fst, t3.snd.snd)
set_option maxRecDepth 100000 in
theorem culetref27_Mul.run (f_culetref27_both : Int → Int → Int → Int → (Bool)) (f_culetref27_checked : Int → Int → (Int × Int × Int)) (f_culetref27_floor : Int → Int → (Int)) (f_culetref27_ceil : Int → Int → (Int)) (a0_0 : Int) (a0_1 : Int) (a1_0 : Int) (a1_1 : Int) : xfn Try.prog ⟨[(41, culetref27_both.sp f_culetref27_both), (58, culetref27_checked.sp f_culetref27_checked), (61, culetref27_floor.sp f_culetref27_floor), (62, culetref27_ceil.sp f_culetref27_ceil)], []⟩ 40 Try.f56 [.agg ⟨[.int .i64 a0_0, .int .i64 a0_1]⟩, .agg ⟨[.int .i64 a1_0, .int .i64 a1_1]⟩] [] = culetref27_Mul.K f_culetref27_both f_culetref27_checked f_culetref27_floor f_culetref27_ceil a0_0 a0_1 a1_0 a1_1 (fun r => some (.tuple ⟨[.agg ⟨[.int .i64 r.1, .int .i64 r.2.1]⟩, .int .i64 r.2.2]⟩, [])) := by kernel_rfl
def culetref27_Mul (a0_0 : Int) (a0_1 : Int) (a1_0 : Int) (a1_1 : Int) : Int × Int × Int := culetref27_Mul.K culetref27_both culetref27_checked culetref27_floor culetref27_ceil a0_0 a0_1 a1_0 a1_1 id
theorem culetref27_Mul.nat {R : Type} (f_culetref27_both : Int → Int → Int → Int → (Bool)) (f_culetref27_checked : Int → Int → (Int × Int × Int)) (f_culetref27_floor : Int → Int → (Int)) (f_culetref27_ceil : Int → Int → (Int)) (a0_0 : Int) (a0_1 : Int) (a1_0 : Int) (a1_1 : Int) (k : Int × Int × Int → R) : culetref27_Mul.K f_culetref27_both f_culetref27_checked f_culetref27_floor f_culetref27_ceil a0_0 a0_1 a1_0 a1_1 k = k (culetref27_Mul.K f_culetref27_both f_culetref27_checked f_culetref27_floor f_culetref27_ceil a0_0 a0_1 a1_0 a1_1 id) := by
  simp only [culetref27_Mul.K, acond k, id_eq]
theorem culetref27_Mul.eq (a b c d : Int) : culetref27_Mul a b c d = imul a b c d := by
  simp only [culetref27_Mul, culetref27_Mul.K, id_eq, culetref27_both.eq, imul, mnE, mxE]
  cases h : V a b && V c d with
  | false => simp
  | true =>
    have h' := h
    rw [Bool.and_eq_true] at h'
    have := V_iff.1 h'.1
    have := V_iff.1 h'.2
    have e1 := mul_bnd30 (x := a) (y := c) (by omega) (by omega) (by omega) (by omega)
    have e2 := mul_bnd30 (x := a) (y := d) (by omega) (by omega) (by omega) (by omega)
    have e3 := mul_bnd30 (x := b) (y := c) (by omega) (by omega) (by omega) (by omega)
    have e4 := mul_bnd30 (x := b) (y := d) (by omega) (by omega) (by omega) (by omega)
    have w1 : IntKind.i64.wrap (a * c) = a * c := w64 (by omega) (by omega)
    have w2 : IntKind.i64.wrap (a * d) = a * d := w64 (by omega) (by omega)
    have w3 : IntKind.i64.wrap (b * c) = b * c := w64 (by omega) (by omega)
    have w4 : IntKind.i64.wrap (b * d) = b * d := w64 (by omega) (by omega)
    have m1 : min (min (min (a * c) (a * d)) (b * c)) (b * d) = mn4 (a * c) (a * d) (b * c) (b * d) := by simp only [mn4]; omega
    have m2 : max (max (max (a * c) (a * d)) (b * c)) (b * d) = mx4 (a * c) (a * d) (b * c) (b * d) := by simp only [mx4]; omega
    simp only [w1, w2, w3, w4, Bool.not_true, cond_false, cond_true, m1, m2]
    rw [culetref27_floor.eq (by omega) (by simp only [mn4]; omega) (by simp only [mn4]; omega), culetref27_ceil.eq (by omega) (by simp only [mx4]; omega) (by simp only [mx4]; omega), culetref27_checked.eq]
theorem culetref27_Mul.ok : SOK Try.prog 56 (culetref27_Mul.sp culetref27_Mul) := by
  refine sok_of (E := ⟨[(41, culetref27_both.sp culetref27_both), (58, culetref27_checked.sp culetref27_checked), (61, culetref27_floor.sp culetref27_floor), (62, culetref27_ceil.sp culetref27_ceil)], []⟩) ⟨(specs_cons culetref27_both.ok (specs_cons culetref27_checked.ok (specs_cons culetref27_floor.ok (specs_cons culetref27_ceil.ok specs_nil)))), inl_nil, mixed_ok⟩ 40 Try.func56 (by decide) rfl fun vs bl v bl' h => ?_
  unfold culetref27_Mul.sp at h
  split at h
  · rename_i a0_0 a0_1 a1_0 a1_1
    simp only [Option.some.injEq, Prod.mk.injEq, true_and] at h
    obtain ⟨rfl, rfl⟩ := h
    refine ⟨?_, by simp [okV, Nat.blt], clo_spec 8 _ (by kernel_rfl), told_blk (by kernel_rfl)⟩
    refine (culetref27_Mul.run culetref27_both culetref27_checked culetref27_floor culetref27_ceil a0_0 a0_1 a1_0 a1_1).trans ?_
    refine (culetref27_Mul.nat culetref27_both culetref27_checked culetref27_floor culetref27_ceil a0_0 a0_1 a1_0 a1_1 _).trans ?_
    kernel_rfl
  · cases h

/-! ### (*culet/culetref28.Calc).Mul (36) -/
def culetref28_Calc_Mul.K {R : Type} (f_culetref28_Calc_kept : Int → Int → Int → Int → (Int × Int × Int)) (f_culetref27_Mul : Int → Int → Int → Int → (Int × Int × Int)) (s0_0 : Int) (a1_0 : Int) (a1_1 : Int) (a2_0 : Int) (a2_1 : Int) (k : Int × Int × Int → R) : R :=
  let t0 := f_culetref27_Mul a1_0 a1_1 a2_0 a2_1
  let t1 := f_culetref28_Calc_kept s0_0 t0.fst t0.snd.fst t0.snd.snd
  k (t1.fst, t1.snd.fst, t1.snd.snd)
set_option maxRecDepth 100000 in
theorem culetref28_Calc_Mul.run (f_culetref28_Calc_kept : Int → Int → Int → Int → (Int × Int × Int)) (f_culetref27_Mul : Int → Int → Int → Int → (Int × Int × Int)) (s0_0 : Int) (a1_0 : Int) (a1_1 : Int) (a2_0 : Int) (a2_1 : Int) : xfn Try.prog ⟨[(55, culetref28_Calc_kept.sp f_culetref28_Calc_kept), (56, culetref27_Mul.sp f_culetref27_Mul)], []⟩ 40 Try.f36 [.pointer (some ⟨0, 0, none⟩), .agg ⟨[.int .i64 a1_0, .int .i64 a1_1]⟩, .agg ⟨[.int .i64 a2_0, .int .i64 a2_1]⟩] [.cs [.int .i64 s0_0] 48] = culetref28_Calc_Mul.K f_culetref28_Calc_kept f_culetref27_Mul s0_0 a1_0 a1_1 a2_0 a2_1 (fun r => some (.agg ⟨[.int .i64 r.1, .int .i64 r.2.1]⟩, [.cs [.int .i64 r.2.2] 48])) := by kernel_rfl
def culetref28_Calc_Mul (s0_0 : Int) (a1_0 : Int) (a1_1 : Int) (a2_0 : Int) (a2_1 : Int) : Int × Int × Int := culetref28_Calc_Mul.K culetref28_Calc_kept culetref27_Mul s0_0 a1_0 a1_1 a2_0 a2_1 id
theorem culetref28_Calc_Mul.nat {R : Type} (f_culetref28_Calc_kept : Int → Int → Int → Int → (Int × Int × Int)) (f_culetref27_Mul : Int → Int → Int → Int → (Int × Int × Int)) (s0_0 : Int) (a1_0 : Int) (a1_1 : Int) (a2_0 : Int) (a2_1 : Int) (k : Int × Int × Int → R) : culetref28_Calc_Mul.K f_culetref28_Calc_kept f_culetref27_Mul s0_0 a1_0 a1_1 a2_0 a2_1 k = k (culetref28_Calc_Mul.K f_culetref28_Calc_kept f_culetref27_Mul s0_0 a1_0 a1_1 a2_0 a2_1 id) := by
  simp only [culetref28_Calc_Mul.K, acond k, id_eq]
theorem culetref28_Calc_Mul.ok : SOK Try.prog 36 (culetref28_Calc_Mul.sp culetref28_Calc_Mul) := by
  refine sok_of (E := ⟨[(55, culetref28_Calc_kept.sp culetref28_Calc_kept), (56, culetref27_Mul.sp culetref27_Mul)], []⟩) ⟨(specs_cons culetref28_Calc_kept.ok (specs_cons culetref27_Mul.ok specs_nil)), inl_nil, mixed_ok⟩ 40 Try.func36 (by decide) rfl fun vs bl v bl' h => ?_
  unfold culetref28_Calc_Mul.sp at h
  split at h
  · rename_i a1_0 a1_1 a2_0 a2_1 s0_0
    simp only [Option.some.injEq, Prod.mk.injEq, true_and] at h
    obtain ⟨rfl, rfl⟩ := h
    refine ⟨?_, by simp [okV, Nat.blt], clo_spec 8 _ (by kernel_rfl), told_blk (by kernel_rfl)⟩
    refine (culetref28_Calc_Mul.run culetref28_Calc_kept culetref27_Mul s0_0 a1_0 a1_1 a2_0 a2_1).trans ?_
    refine (culetref28_Calc_Mul.nat culetref28_Calc_kept culetref27_Mul s0_0 a1_0 a1_1 a2_0 a2_1 _).trans ?_
    kernel_rfl
  · cases h

/-! ### culet/culetref30.Perpendicular (17) -/
def culetref30_Perpendicular.K {R : Type} (f_culetref30_Valid : Int → Int → Int → Int → Int → Int → Int → Int → (Bool)) (f_culetref30_share : Int → Int → Int → Int → Int → (Int × Int × Int × Int)) (f_culetref28_Calc_Mul : Int → Int → Int → Int → Int → (Int × Int × Int)) (a0_0 : Int) (a0_1 : Int) (a0_2 : Int) (a0_3 : Int) (a0_4 : Int) (a0_5 : Int) (a0_6 : Int) (a0_7 : Int) (k : Int × Int × Int → R) : R :=
  let t0 := f_culetref30_Valid a0_0 a0_1 a0_2 a0_3 a0_4 a0_5 a0_6 a0_7
  bif !t0 then
    k (0, 0, 1)
  else
    let t1 := f_culetref28_Calc_Mul 0 a0_4 a0_5 a0_0 a0_1
    let t2 := f_culetref28_Calc_Mul t1.snd.snd a0_6 a0_7 a0_2 a0_3
    let t3 := f_culetref30_share t2.snd.snd t1.fst t1.snd.fst t2.fst t2.snd.fst
    k (t3.fst, t3.snd.fst, t3.snd.snd.fst)
set_option maxRecDepth 100000 in
theorem culetref30_Perpendicular.run (f_culetref30_Valid : Int → Int → Int → Int → Int → Int → Int → Int → (Bool)) (f_culetref30_share : Int → Int → Int → Int → Int → (Int × Int × Int × Int)) (f_culetref28_Calc_Mul : Int → Int → Int → Int → Int → (Int × Int × Int)) (a0_0 : Int) (a0_1 : Int) (a0_2 : Int) (a0_3 : Int) (a0_4 : Int) (a0_5 : Int) (a0_6 : Int) (a0_7 : Int) : xfn Try.prog ⟨[(20, culetref30_Valid.sp f_culetref30_Valid), (31, culetref30_share.sp f_culetref30_share), (36, culetref28_Calc_Mul.sp f_culetref28_Calc_Mul)], []⟩ 40 Try.f17 [.agg ⟨[.int .i64 a0_0, .int .i64 a0_1, .int .i64 a0_2, .int .i64 a0_3, .int .i64 a0_4, .int .i64 a0_5, .int .i64 a0_6, .int .i64 a0_7]⟩] [] = culetref30_Perpendicular.K f_culetref30_Valid f_culetref30_share f_culetref28_Calc_Mul a0_0 a0_1 a0_2 a0_3 a0_4 a0_5 a0_6 a0_7 (fun r => some (.tuple ⟨[.agg ⟨[.int .i64 r.1, .int .i64 r.2.1]⟩, .int .i64 r.2.2]⟩, [])) := by kernel_rfl
def culetref30_Perpendicular (a0_0 : Int) (a0_1 : Int) (a0_2 : Int) (a0_3 : Int) (a0_4 : Int) (a0_5 : Int) (a0_6 : Int) (a0_7 : Int) : Int × Int × Int := culetref30_Perpendicular.K culetref30_Valid culetref30_share culetref28_Calc_Mul a0_0 a0_1 a0_2 a0_3 a0_4 a0_5 a0_6 a0_7 id
theorem culetref30_Perpendicular.nat {R : Type} (f_culetref30_Valid : Int → Int → Int → Int → Int → Int → Int → Int → (Bool)) (f_culetref30_share : Int → Int → Int → Int → Int → (Int × Int × Int × Int)) (f_culetref28_Calc_Mul : Int → Int → Int → Int → Int → (Int × Int × Int)) (a0_0 : Int) (a0_1 : Int) (a0_2 : Int) (a0_3 : Int) (a0_4 : Int) (a0_5 : Int) (a0_6 : Int) (a0_7 : Int) (k : Int × Int × Int → R) : culetref30_Perpendicular.K f_culetref30_Valid f_culetref30_share f_culetref28_Calc_Mul a0_0 a0_1 a0_2 a0_3 a0_4 a0_5 a0_6 a0_7 k = k (culetref30_Perpendicular.K f_culetref30_Valid f_culetref30_share f_culetref28_Calc_Mul a0_0 a0_1 a0_2 a0_3 a0_4 a0_5 a0_6 a0_7 id) := by
  simp only [culetref30_Perpendicular.K, acond k, id_eq]
theorem ref_pol (a b c d p q r s : Int) : ((culetref30_share (culetref28_Calc_Mul (culetref28_Calc_Mul 0 a b c d).2.2 p q r s).2.2 (culetref28_Calc_Mul 0 a b c d).1 (culetref28_Calc_Mul 0 a b c d).2.1 (culetref28_Calc_Mul (culetref28_Calc_Mul 0 a b c d).2.2 p q r s).1 (culetref28_Calc_Mul (culetref28_Calc_Mul 0 a b c d).2.2 p q r s).2.1).1, (culetref30_share (culetref28_Calc_Mul (culetref28_Calc_Mul 0 a b c d).2.2 p q r s).2.2 (culetref28_Calc_Mul 0 a b c d).1 (culetref28_Calc_Mul 0 a b c d).2.1 (culetref28_Calc_Mul (culetref28_Calc_Mul 0 a b c d).2.2 p q r s).1 (culetref28_Calc_Mul (culetref28_Calc_Mul 0 a b c d).2.2 p q r s).2.1).2.1, (culetref30_share (culetref28_Calc_Mul (culetref28_Calc_Mul 0 a b c d).2.2 p q r s).2.2 (culetref28_Calc_Mul 0 a b c d).1 (culetref28_Calc_Mul 0 a b c d).2.1 (culetref28_Calc_Mul (culetref28_Calc_Mul 0 a b c d).2.2 p q r s).1 (culetref28_Calc_Mul (culetref28_Calc_Mul 0 a b c d).2.2 p q r s).2.1).2.2.1) = bnd (imul a b c d) fun p0 p1 => bnd (imul p q r s) fun q0 q1 => shr p0 p1 q0 q1 := by
  simp only [culetref28_Calc_Mul, culetref28_Calc_Mul.K, id_eq, kept_eq, culetref27_Mul.eq, kp0]
  generalize imul a b c d = r1
  obtain ⟨x1, y1, e1⟩ := r1
  by_cases h1 : e1 = 0
  · subst h1
    rw [bnd_ok rfl]
    simp only [kp0]
    generalize imul p q r s = r2
    obtain ⟨x2, y2, e2⟩ := r2
    by_cases h2 : e2 = 0
    · subst h2
      rw [bnd_ok rfl]
      obtain ⟨e, h⟩ := culetref30_share.eq x1 y1 x2 y2
      simp only [h]
    · simp only [culetref30_share.err h2]
      simp [bnd, bne_of h2]
  · simp only [kpn _ h1, culetref30_share.err h1]
    simp [bnd, bne_of h1]
theorem culetref30_Perpendicular.eq (a0 a1 a2 a3 a4 a5 a6 a7 : Int) : culetref30_Perpendicular a0 a1 a2 a3 a4 a5 a6 a7 = pol a0 a1 a2 a3 a4 a5 a6 a7 a0 a1 a2 a3 := by
  simp only [culetref30_Perpendicular, culetref30_Perpendicular.K, id_eq, culetref30_Valid.eq, ref_pol, pol]
  cases srf a0 a1 a2 a3 a4 a5 a6 a7 <;> rfl
theorem culetref30_Perpendicular.ok : SOK Try.prog 17 (culetref30_Perpendicular.sp culetref30_Perpendicular) := by
  refine sok_of (E := ⟨[(20, culetref30_Valid.sp culetref30_Valid), (31, culetref30_share.sp culetref30_share), (36, culetref28_Calc_Mul.sp culetref28_Calc_Mul)], []⟩) ⟨(specs_cons culetref30_Valid.ok (specs_cons culetref30_share.ok (specs_cons culetref28_Calc_Mul.ok specs_nil))), inl_nil, mixed_ok⟩ 40 Try.func17 (by decide) rfl fun vs bl v bl' h => ?_
  unfold culetref30_Perpendicular.sp at h
  split at h
  · rename_i a0_0 a0_1 a0_2 a0_3 a0_4 a0_5 a0_6 a0_7
    simp only [Option.some.injEq, Prod.mk.injEq, true_and] at h
    obtain ⟨rfl, rfl⟩ := h
    refine ⟨?_, by simp [okV, Nat.blt], clo_spec 8 _ (by kernel_rfl), told_blk (by kernel_rfl)⟩
    refine (culetref30_Perpendicular.run culetref30_Valid culetref30_share culetref28_Calc_Mul a0_0 a0_1 a0_2 a0_3 a0_4 a0_5 a0_6 a0_7).trans ?_
    refine (culetref30_Perpendicular.nat culetref30_Valid culetref30_share culetref28_Calc_Mul a0_0 a0_1 a0_2 a0_3 a0_4 a0_5 a0_6 a0_7 _).trans ?_
    kernel_rfl
  · cases h

/-! ### culet/culetref30.Parallel (18) -/
def culetref30_Parallel.K {R : Type} (f_culetref30_Valid : Int → Int → Int → Int → Int → Int → Int → Int → (Bool)) (f_culetref30_share : Int → Int → Int → Int → Int → (Int × Int × Int × Int)) (f_culetref28_Calc_Mul : Int → Int → Int → Int → Int → (Int × Int × Int)) (a0_0 : Int) (a0_1 : Int) (a0_2 : Int) (a0_3 : Int) (a0_4 : Int) (a0_5 : Int) (a0_6 : Int) (a0_7 : Int) (k : Int × Int × Int → R) : R :=
  let t0 := f_culetref30_Valid a0_0 a0_1 a0_2 a0_3 a0_4 a0_5 a0_6 a0_7
  bif !t0 then
    k (0, 0, 1)
  else
    let t1 := f_culetref28_Calc_Mul 0 a0_4 a0_5 a0_2 a0_3
    let t2 := f_culetref28_Calc_Mul t1.snd.snd a0_6 a0_7 a0_0 a0_1
    let t3 := f_culetref30_share t2.snd.snd t1.fst t1.snd.fst t2.fst t2.snd.fst
    k (t3.fst, t3.snd.fst, t3.snd.snd.fst)
set_option maxRecDepth 100000 in
theorem culetref30_Parallel.run (f_culetref30_Valid : Int → Int → Int → Int → Int → Int → Int → Int → (Bool)) (f_culetref30_share : Int → Int → Int → Int → Int → (Int × Int × Int × Int)) (f_culetref28_Calc_Mul : Int → Int → Int → Int → Int → (Int × Int × Int)) (a0_0 : Int) (a0_1 : Int) (a0_2 : Int) (a0_3 : Int) (a0_4 : Int) (a0_5 : Int) (a0_6 : Int) (a0_7 : Int) : xfn Try.prog ⟨[(20, culetref30_Valid.sp f_culetref30_Valid), (31, culetref30_share.sp f_culetref30_share), (36, culetref28_Calc_Mul.sp f_culetref28_Calc_Mul)], []⟩ 40 Try.f18 [.agg ⟨[.int .i64 a0_0, .int .i64 a0_1, .int .i64 a0_2, .int .i64 a0_3, .int .i64 a0_4, .int .i64 a0_5, .int .i64 a0_6, .int .i64 a0_7]⟩] [] = culetref30_Parallel.K f_culetref30_Valid f_culetref30_share f_culetref28_Calc_Mul a0_0 a0_1 a0_2 a0_3 a0_4 a0_5 a0_6 a0_7 (fun r => some (.tuple ⟨[.agg ⟨[.int .i64 r.1, .int .i64 r.2.1]⟩, .int .i64 r.2.2]⟩, [])) := by kernel_rfl
def culetref30_Parallel (a0_0 : Int) (a0_1 : Int) (a0_2 : Int) (a0_3 : Int) (a0_4 : Int) (a0_5 : Int) (a0_6 : Int) (a0_7 : Int) : Int × Int × Int := culetref30_Parallel.K culetref30_Valid culetref30_share culetref28_Calc_Mul a0_0 a0_1 a0_2 a0_3 a0_4 a0_5 a0_6 a0_7 id
theorem culetref30_Parallel.nat {R : Type} (f_culetref30_Valid : Int → Int → Int → Int → Int → Int → Int → Int → (Bool)) (f_culetref30_share : Int → Int → Int → Int → Int → (Int × Int × Int × Int)) (f_culetref28_Calc_Mul : Int → Int → Int → Int → Int → (Int × Int × Int)) (a0_0 : Int) (a0_1 : Int) (a0_2 : Int) (a0_3 : Int) (a0_4 : Int) (a0_5 : Int) (a0_6 : Int) (a0_7 : Int) (k : Int × Int × Int → R) : culetref30_Parallel.K f_culetref30_Valid f_culetref30_share f_culetref28_Calc_Mul a0_0 a0_1 a0_2 a0_3 a0_4 a0_5 a0_6 a0_7 k = k (culetref30_Parallel.K f_culetref30_Valid f_culetref30_share f_culetref28_Calc_Mul a0_0 a0_1 a0_2 a0_3 a0_4 a0_5 a0_6 a0_7 id) := by
  simp only [culetref30_Parallel.K, acond k, id_eq]
theorem culetref30_Parallel.eq (a0 a1 a2 a3 a4 a5 a6 a7 : Int) : culetref30_Parallel a0 a1 a2 a3 a4 a5 a6 a7 = pol a0 a1 a2 a3 a4 a5 a6 a7 a2 a3 a0 a1 := by
  simp only [culetref30_Parallel, culetref30_Parallel.K, id_eq, culetref30_Valid.eq, ref_pol, pol]
  cases srf a0 a1 a2 a3 a4 a5 a6 a7 <;> rfl
theorem culetref30_Parallel.ok : SOK Try.prog 18 (culetref30_Parallel.sp culetref30_Parallel) := by
  refine sok_of (E := ⟨[(20, culetref30_Valid.sp culetref30_Valid), (31, culetref30_share.sp culetref30_share), (36, culetref28_Calc_Mul.sp culetref28_Calc_Mul)], []⟩) ⟨(specs_cons culetref30_Valid.ok (specs_cons culetref30_share.ok (specs_cons culetref28_Calc_Mul.ok specs_nil))), inl_nil, mixed_ok⟩ 40 Try.func18 (by decide) rfl fun vs bl v bl' h => ?_
  unfold culetref30_Parallel.sp at h
  split at h
  · rename_i a0_0 a0_1 a0_2 a0_3 a0_4 a0_5 a0_6 a0_7
    simp only [Option.some.injEq, Prod.mk.injEq, true_and] at h
    obtain ⟨rfl, rfl⟩ := h
    refine ⟨?_, by simp [okV, Nat.blt], clo_spec 8 _ (by kernel_rfl), told_blk (by kernel_rfl)⟩
    refine (culetref30_Parallel.run culetref30_Valid culetref30_share culetref28_Calc_Mul a0_0 a0_1 a0_2 a0_3 a0_4 a0_5 a0_6 a0_7).trans ?_
    refine (culetref30_Parallel.nat culetref30_Valid culetref30_share culetref28_Calc_Mul a0_0 a0_1 a0_2 a0_3 a0_4 a0_5 a0_6 a0_7 _).trans ?_
    kernel_rfl
  · cases h

/-! ### culet/culetref30.Reflectance (21) -/
def culetref30_Reflectance.K {R : Type} (f_culetref30_Perpendicular : Int → Int → Int → Int → Int → Int → Int → Int → (Int × Int × Int)) (f_culetref30_Parallel : Int → Int → Int → Int → Int → Int → Int → Int → (Int × Int × Int)) (f_culetref28_Calc_Mul : Int → Int → Int → Int → Int → (Int × Int × Int)) (f_culetref28_Calc_Add : Int → Int → Int → Int → Int → (Int × Int × Int)) (f_culetref30_Cut : Int → Int → (Int × Int)) (a0_0 : Int) (a0_1 : Int) (a0_2 : Int) (a0_3 : Int) (a0_4 : Int) (a0_5 : Int) (a0_6 : Int) (a0_7 : Int) (k : Int × Int × Int → R) : R :=
  let t0 := f_culetref30_Perpendicular a0_0 a0_1 a0_2 a0_3 a0_4 a0_5 a0_6 a0_7
  bif t0.snd.snd != 0 then
    k (0, 0, t0.snd.snd)
  else
    let t1 := f_culetref30_Parallel a0_0 a0_1 a0_2 a0_3 a0_4 a0_5 a0_6 a0_7
    bif t1.snd.snd != 0 then
      k (0, 0, t1.snd.snd)
    else
      let t2 := f_culetref28_Calc_Add 0 t0.fst t0.snd.fst t1.fst t1.snd.fst
      let t3 := f_culetref28_Calc_Mul t2.snd.snd t2.fst t2.snd.fst 8388608 8388608
      bif t3.snd.snd != 0 then
        k (0, 0, t3.snd.snd)
      else
        let t4 := f_culetref30_Cut t3.fst t3.snd.fst
        k (t4.fst, t4.snd, 0)
set_option maxRecDepth 100000 in
theorem culetref30_Reflectance.run (f_culetref30_Perpendicular : Int → Int → Int → Int → Int → Int → Int → Int → (Int × Int × Int)) (f_culetref30_Parallel : Int → Int → Int → Int → Int → Int → Int → Int → (Int × Int × Int)) (f_culetref28_Calc_Mul : Int → Int → Int → Int → Int → (Int × Int × Int)) (f_culetref28_Calc_Add : Int → Int → Int → Int → Int → (Int × Int × Int)) (f_culetref30_Cut : Int → Int → (Int × Int)) (a0_0 : Int) (a0_1 : Int) (a0_2 : Int) (a0_3 : Int) (a0_4 : Int) (a0_5 : Int) (a0_6 : Int) (a0_7 : Int) : xfn Try.prog ⟨[(17, culetref30_Perpendicular.sp f_culetref30_Perpendicular), (18, culetref30_Parallel.sp f_culetref30_Parallel), (36, culetref28_Calc_Mul.sp f_culetref28_Calc_Mul), (37, culetref28_Calc_Add.sp f_culetref28_Calc_Add), (38, culetref30_Cut.sp f_culetref30_Cut)], []⟩ 40 Try.f21 [.agg ⟨[.int .i64 a0_0, .int .i64 a0_1, .int .i64 a0_2, .int .i64 a0_3, .int .i64 a0_4, .int .i64 a0_5, .int .i64 a0_6, .int .i64 a0_7]⟩] [] = culetref30_Reflectance.K f_culetref30_Perpendicular f_culetref30_Parallel f_culetref28_Calc_Mul f_culetref28_Calc_Add f_culetref30_Cut a0_0 a0_1 a0_2 a0_3 a0_4 a0_5 a0_6 a0_7 (fun r => some (.tuple ⟨[.agg ⟨[.int .i64 r.1, .int .i64 r.2.1]⟩, .int .i64 r.2.2]⟩, [])) := by kernel_rfl
def culetref30_Reflectance (a0_0 : Int) (a0_1 : Int) (a0_2 : Int) (a0_3 : Int) (a0_4 : Int) (a0_5 : Int) (a0_6 : Int) (a0_7 : Int) : Int × Int × Int := culetref30_Reflectance.K culetref30_Perpendicular culetref30_Parallel culetref28_Calc_Mul culetref28_Calc_Add culetref30_Cut a0_0 a0_1 a0_2 a0_3 a0_4 a0_5 a0_6 a0_7 id
theorem culetref30_Reflectance.nat {R : Type} (f_culetref30_Perpendicular : Int → Int → Int → Int → Int → Int → Int → Int → (Int × Int × Int)) (f_culetref30_Parallel : Int → Int → Int → Int → Int → Int → Int → Int → (Int × Int × Int)) (f_culetref28_Calc_Mul : Int → Int → Int → Int → Int → (Int × Int × Int)) (f_culetref28_Calc_Add : Int → Int → Int → Int → Int → (Int × Int × Int)) (f_culetref30_Cut : Int → Int → (Int × Int)) (a0_0 : Int) (a0_1 : Int) (a0_2 : Int) (a0_3 : Int) (a0_4 : Int) (a0_5 : Int) (a0_6 : Int) (a0_7 : Int) (k : Int × Int × Int → R) : culetref30_Reflectance.K f_culetref30_Perpendicular f_culetref30_Parallel f_culetref28_Calc_Mul f_culetref28_Calc_Add f_culetref30_Cut a0_0 a0_1 a0_2 a0_3 a0_4 a0_5 a0_6 a0_7 k = k (culetref30_Reflectance.K f_culetref30_Perpendicular f_culetref30_Parallel f_culetref28_Calc_Mul f_culetref28_Calc_Add f_culetref30_Cut a0_0 a0_1 a0_2 a0_3 a0_4 a0_5 a0_6 a0_7 id) := by
  simp only [culetref30_Reflectance.K, acond k, id_eq]
theorem culetref30_Reflectance.eq (a0 a1 a2 a3 a4 a5 a6 a7 : Int) : culetref30_Reflectance a0 a1 a2 a3 a4 a5 a6 a7 = refl a0 a1 a2 a3 a4 a5 a6 a7 := by
  simp only [culetref30_Reflectance, culetref30_Reflectance.K, id_eq, culetref30_Perpendicular.eq, culetref30_Parallel.eq, culetref28_Calc_Add, culetref28_Calc_Add.K, culetref28_Calc_Mul, culetref28_Calc_Mul.K, kept_eq, culetref27_Add.eq, culetref27_Mul.eq, culetref30_Cut.eq, refl, mean, fin, kp0]
  generalize pol a0 a1 a2 a3 a4 a5 a6 a7 a0 a1 a2 a3 = r1
  generalize pol a0 a1 a2 a3 a4 a5 a6 a7 a2 a3 a0 a1 = r2
  obtain ⟨x1, y1, e1⟩ := r1
  obtain ⟨x2, y2, e2⟩ := r2
  by_cases h1 : e1 = 0
  · subst h1
    rw [bnd_ok rfl]
    by_cases h2 : e2 = 0
    · subst h2
      rw [bnd_ok rfl]
      simp only [bne_self_eq_false, cond_false]
      generalize iadd x1 y1 x2 y2 = r3
      obtain ⟨x3, y3, e3⟩ := r3
      by_cases h3 : e3 = 0
      · subst h3
        rw [bnd_ok rfl]
        simp only [kp0]
        rfl
      · simp only [kpn _ h3]
        simp [bnd, bne_of h3]
    · simp [bnd, bne_of h2]
  · simp [bnd, bne_of h1]
theorem culetref30_Reflectance.ok : SOK Try.prog 21 (culetref30_Reflectance.sp culetref30_Reflectance) := by
  refine sok_of (E := ⟨[(17, culetref30_Perpendicular.sp culetref30_Perpendicular), (18, culetref30_Parallel.sp culetref30_Parallel), (36, culetref28_Calc_Mul.sp culetref28_Calc_Mul), (37, culetref28_Calc_Add.sp culetref28_Calc_Add), (38, culetref30_Cut.sp culetref30_Cut)], []⟩) ⟨(specs_cons culetref30_Perpendicular.ok (specs_cons culetref30_Parallel.ok (specs_cons culetref28_Calc_Mul.ok (specs_cons culetref28_Calc_Add.ok (specs_cons culetref30_Cut.ok specs_nil))))), inl_nil, mixed_ok⟩ 40 Try.func21 (by decide) rfl fun vs bl v bl' h => ?_
  unfold culetref30_Reflectance.sp at h
  split at h
  · rename_i a0_0 a0_1 a0_2 a0_3 a0_4 a0_5 a0_6 a0_7
    simp only [Option.some.injEq, Prod.mk.injEq, true_and] at h
    obtain ⟨rfl, rfl⟩ := h
    refine ⟨?_, by simp [okV, Nat.blt], clo_spec 8 _ (by kernel_rfl), told_blk (by kernel_rfl)⟩
    refine (culetref30_Reflectance.run culetref30_Perpendicular culetref30_Parallel culetref28_Calc_Mul culetref28_Calc_Add culetref30_Cut a0_0 a0_1 a0_2 a0_3 a0_4 a0_5 a0_6 a0_7).trans ?_
    refine (culetref30_Reflectance.nat culetref30_Perpendicular culetref30_Parallel culetref28_Calc_Mul culetref28_Calc_Add culetref30_Cut a0_0 a0_1 a0_2 a0_3 a0_4 a0_5 a0_6 a0_7 _).trans ?_
    kernel_rfl
  · cases h

/-! ### culet/fresnel.Transmittance (22) -/
def fresnel_Transmittance.K {R : Type} (f_fresnel_Reflectance : Int → Int → Int → Int → Int → Int → Int → Int → (Int × Int × Int)) (f_interval_Sub : Int → Int → Int → Int → (Int × Int × Int)) (a0_0 : Int) (a0_1 : Int) (a0_2 : Int) (a0_3 : Int) (a0_4 : Int) (a0_5 : Int) (a0_6 : Int) (a0_7 : Int) (k : Int × Int × Int → R) : R :=
  let t0 := f_fresnel_Reflectance a0_0 a0_1 a0_2 a0_3 a0_4 a0_5 a0_6 a0_7
  bif t0.snd.snd != 0 then
    k (0, 0, t0.snd.snd)
  else
    let t1 := f_interval_Sub 16777216 16777216 t0.fst t0.snd.fst
    k (t1.fst, t1.snd.fst, t1.snd.snd)
set_option maxRecDepth 100000 in
theorem fresnel_Transmittance.run (f_fresnel_Reflectance : Int → Int → Int → Int → Int → Int → Int → Int → (Int × Int × Int)) (f_interval_Sub : Int → Int → Int → Int → (Int × Int × Int)) (a0_0 : Int) (a0_1 : Int) (a0_2 : Int) (a0_3 : Int) (a0_4 : Int) (a0_5 : Int) (a0_6 : Int) (a0_7 : Int) : xfn Try.prog ⟨[(15, fresnel_Reflectance.sp f_fresnel_Reflectance), (39, interval_Sub.sp f_interval_Sub)], []⟩ 40 Try.f22 [.agg ⟨[.int .i64 a0_0, .int .i64 a0_1, .int .i64 a0_2, .int .i64 a0_3, .int .i64 a0_4, .int .i64 a0_5, .int .i64 a0_6, .int .i64 a0_7]⟩] [] = fresnel_Transmittance.K f_fresnel_Reflectance f_interval_Sub a0_0 a0_1 a0_2 a0_3 a0_4 a0_5 a0_6 a0_7 (fun r => some (.tuple ⟨[.agg ⟨[.int .i64 r.1, .int .i64 r.2.1]⟩, .int .i64 r.2.2]⟩, [])) := by kernel_rfl
def fresnel_Transmittance (a0_0 : Int) (a0_1 : Int) (a0_2 : Int) (a0_3 : Int) (a0_4 : Int) (a0_5 : Int) (a0_6 : Int) (a0_7 : Int) : Int × Int × Int := fresnel_Transmittance.K fresnel_Reflectance interval_Sub a0_0 a0_1 a0_2 a0_3 a0_4 a0_5 a0_6 a0_7 id
theorem fresnel_Transmittance.nat {R : Type} (f_fresnel_Reflectance : Int → Int → Int → Int → Int → Int → Int → Int → (Int × Int × Int)) (f_interval_Sub : Int → Int → Int → Int → (Int × Int × Int)) (a0_0 : Int) (a0_1 : Int) (a0_2 : Int) (a0_3 : Int) (a0_4 : Int) (a0_5 : Int) (a0_6 : Int) (a0_7 : Int) (k : Int × Int × Int → R) : fresnel_Transmittance.K f_fresnel_Reflectance f_interval_Sub a0_0 a0_1 a0_2 a0_3 a0_4 a0_5 a0_6 a0_7 k = k (fresnel_Transmittance.K f_fresnel_Reflectance f_interval_Sub a0_0 a0_1 a0_2 a0_3 a0_4 a0_5 a0_6 a0_7 id) := by
  simp only [fresnel_Transmittance.K, acond k, id_eq]
theorem fresnel_Transmittance.eq (a0 a1 a2 a3 a4 a5 a6 a7 : Int) : fresnel_Transmittance a0 a1 a2 a3 a4 a5 a6 a7 = trn a0 a1 a2 a3 a4 a5 a6 a7 := by
  simp only [fresnel_Transmittance, fresnel_Transmittance.K, id_eq, fresnel_Reflectance.eq, interval_Sub.eq, trn, bnd]
theorem fresnel_Transmittance.ok : SOK Try.prog 22 (fresnel_Transmittance.sp fresnel_Transmittance) := by
  refine sok_of (E := ⟨[(15, fresnel_Reflectance.sp fresnel_Reflectance), (39, interval_Sub.sp interval_Sub)], []⟩) ⟨(specs_cons fresnel_Reflectance.ok (specs_cons interval_Sub.ok specs_nil)), inl_nil, mixed_ok⟩ 40 Try.func22 (by decide) rfl fun vs bl v bl' h => ?_
  unfold fresnel_Transmittance.sp at h
  split at h
  · rename_i a0_0 a0_1 a0_2 a0_3 a0_4 a0_5 a0_6 a0_7
    simp only [Option.some.injEq, Prod.mk.injEq, true_and] at h
    obtain ⟨rfl, rfl⟩ := h
    refine ⟨?_, by simp [okV, Nat.blt], clo_spec 8 _ (by kernel_rfl), told_blk (by kernel_rfl)⟩
    refine (fresnel_Transmittance.run fresnel_Reflectance interval_Sub a0_0 a0_1 a0_2 a0_3 a0_4 a0_5 a0_6 a0_7).trans ?_
    refine (fresnel_Transmittance.nat fresnel_Reflectance interval_Sub a0_0 a0_1 a0_2 a0_3 a0_4 a0_5 a0_6 a0_7 _).trans ?_
    kernel_rfl
  · cases h

/-! ### culet/culetref30.Transmittance (23) -/
def culetref30_Transmittance.K {R : Type} (f_culetref28_One : (Int × Int)) (f_culetref30_Reflectance : Int → Int → Int → Int → Int → Int → Int → Int → (Int × Int × Int)) (f_culetref27_Sub : Int → Int → Int → Int → (Int × Int × Int)) (a0_0 : Int) (a0_1 : Int) (a0_2 : Int) (a0_3 : Int) (a0_4 : Int) (a0_5 : Int) (a0_6 : Int) (a0_7 : Int) (k : Int × Int × Int → R) : R :=
  let t0 := f_culetref30_Reflectance a0_0 a0_1 a0_2 a0_3 a0_4 a0_5 a0_6 a0_7
  bif t0.snd.snd != 0 then
    k (0, 0, t0.snd.snd)
  else
    let t1 := f_culetref27_Sub f_culetref28_One.fst f_culetref28_One.snd t0.fst t0.snd.fst
    k (t1.fst, t1.snd.fst, t1.snd.snd)
set_option maxRecDepth 100000 in
theorem culetref30_Transmittance.run (f_culetref28_One : (Int × Int)) (f_culetref30_Reflectance : Int → Int → Int → Int → Int → Int → Int → Int → (Int × Int × Int)) (f_culetref27_Sub : Int → Int → Int → Int → (Int × Int × Int)) (a0_0 : Int) (a0_1 : Int) (a0_2 : Int) (a0_3 : Int) (a0_4 : Int) (a0_5 : Int) (a0_6 : Int) (a0_7 : Int) : xfn Try.prog ⟨[(12, culetref28_One.sp f_culetref28_One), (21, culetref30_Reflectance.sp f_culetref30_Reflectance), (40, culetref27_Sub.sp f_culetref27_Sub)], []⟩ 40 Try.f23 [.agg ⟨[.int .i64 a0_0, .int .i64 a0_1, .int .i64 a0_2, .int .i64 a0_3, .int .i64 a0_4, .int .i64 a0_5, .int .i64 a0_6, .int .i64 a0_7]⟩] [] = culetref30_Transmittance.K f_culetref28_One f_culetref30_Reflectance f_culetref27_Sub a0_0 a0_1 a0_2 a0_3 a0_4 a0_5 a0_6 a0_7 (fun r => some (.tuple ⟨[.agg ⟨[.int .i64 r.1, .int .i64 r.2.1]⟩, .int .i64 r.2.2]⟩, [])) := by kernel_rfl
def culetref30_Transmittance (a0_0 : Int) (a0_1 : Int) (a0_2 : Int) (a0_3 : Int) (a0_4 : Int) (a0_5 : Int) (a0_6 : Int) (a0_7 : Int) : Int × Int × Int := culetref30_Transmittance.K culetref28_One culetref30_Reflectance culetref27_Sub a0_0 a0_1 a0_2 a0_3 a0_4 a0_5 a0_6 a0_7 id
theorem culetref30_Transmittance.nat {R : Type} (f_culetref28_One : (Int × Int)) (f_culetref30_Reflectance : Int → Int → Int → Int → Int → Int → Int → Int → (Int × Int × Int)) (f_culetref27_Sub : Int → Int → Int → Int → (Int × Int × Int)) (a0_0 : Int) (a0_1 : Int) (a0_2 : Int) (a0_3 : Int) (a0_4 : Int) (a0_5 : Int) (a0_6 : Int) (a0_7 : Int) (k : Int × Int × Int → R) : culetref30_Transmittance.K f_culetref28_One f_culetref30_Reflectance f_culetref27_Sub a0_0 a0_1 a0_2 a0_3 a0_4 a0_5 a0_6 a0_7 k = k (culetref30_Transmittance.K f_culetref28_One f_culetref30_Reflectance f_culetref27_Sub a0_0 a0_1 a0_2 a0_3 a0_4 a0_5 a0_6 a0_7 id) := by
  simp only [culetref30_Transmittance.K, acond k, id_eq]
theorem culetref30_Transmittance.eq (a0 a1 a2 a3 a4 a5 a6 a7 : Int) : culetref30_Transmittance a0 a1 a2 a3 a4 a5 a6 a7 = trn a0 a1 a2 a3 a4 a5 a6 a7 := by
  simp only [culetref30_Transmittance, culetref30_Transmittance.K, id_eq, culetref30_Reflectance.eq, culetref27_Sub.eq, trn, bnd]
  rfl
theorem culetref30_Transmittance.ok : SOK Try.prog 23 (culetref30_Transmittance.sp culetref30_Transmittance) := by
  refine sok_of (E := ⟨[(12, culetref28_One.sp culetref28_One), (21, culetref30_Reflectance.sp culetref30_Reflectance), (40, culetref27_Sub.sp culetref27_Sub)], []⟩) ⟨(specs_cons culetref28_One.ok (specs_cons culetref30_Reflectance.ok (specs_cons culetref27_Sub.ok specs_nil))), inl_nil, mixed_ok⟩ 40 Try.func23 (by decide) rfl fun vs bl v bl' h => ?_
  unfold culetref30_Transmittance.sp at h
  split at h
  · rename_i a0_0 a0_1 a0_2 a0_3 a0_4 a0_5 a0_6 a0_7
    simp only [Option.some.injEq, Prod.mk.injEq, true_and] at h
    obtain ⟨rfl, rfl⟩ := h
    refine ⟨?_, by simp [okV, Nat.blt], clo_spec 8 _ (by kernel_rfl), told_blk (by kernel_rfl)⟩
    refine (culetref30_Transmittance.run culetref28_One culetref30_Reflectance culetref27_Sub a0_0 a0_1 a0_2 a0_3 a0_4 a0_5 a0_6 a0_7).trans ?_
    refine (culetref30_Transmittance.nat culetref28_One culetref30_Reflectance culetref27_Sub a0_0 a0_1 a0_2 a0_3 a0_4 a0_5 a0_6 a0_7 _).trans ?_
    kernel_rfl
  · cases h

/-! ### culet/culetlaw30.FresnelForms (6) -/
def culetlaw30_FresnelForms.K {R : Type} (f_culetlaw30_awake : (Bool)) (f_fresnel_Perpendicular : Int → Int → Int → Int → Int → Int → Int → Int → (Int × Int × Int)) (f_fresnel_Parallel : Int → Int → Int → Int → Int → Int → Int → Int → (Int × Int × Int)) (f_fresnel_Reflectance : Int → Int → Int → Int → Int → Int → Int → Int → (Int × Int × Int)) (f_culetref30_Perpendicular : Int → Int → Int → Int → Int → Int → Int → Int → (Int × Int × Int)) (f_culetref30_Parallel : Int → Int → Int → Int → Int → Int → Int → Int → (Int × Int × Int)) (f_fresnel_Valid : Int → Int → Int → Int → Int → Int → Int → Int → (Bool)) (f_culetref30_Valid : Int → Int → Int → Int → Int → Int → Int → Int → (Bool)) (f_culetref30_Reflectance : Int → Int → Int → Int → Int → Int → Int → Int → (Int × Int × Int)) (f_fresnel_Transmittance : Int → Int → Int → Int → Int → Int → Int → Int → (Int × Int × Int)) (f_culetref30_Transmittance : Int → Int → Int → Int → Int → Int → Int → Int → (Int × Int × Int)) (a0_0 : Int) (a0_1 : Int) (a0_2 : Int) (a0_3 : Int) (a0_4 : Int) (a0_5 : Int) (a0_6 : Int) (a0_7 : Int) (k : (Bool) → R) : R :=
  bif !f_culetlaw30_awake then
    k (false)
  else
    let t0 := f_fresnel_Perpendicular a0_0 a0_1 a0_2 a0_3 a0_4 a0_5 a0_6 a0_7
    let t1 := f_culetref30_Perpendicular a0_0 a0_1 a0_2 a0_3 a0_4 a0_5 a0_6 a0_7
    bif !(t0.fst == t1.fst && t0.snd.fst == t1.snd.fst) then
      k (false)
    else
      bif t0.snd.snd != t1.snd.snd then
        k (false)
      else
        let t2 := f_fresnel_Parallel a0_0 a0_1 a0_2 a0_3 a0_4 a0_5 a0_6 a0_7
        let t3 := f_culetref30_Parallel a0_0 a0_1 a0_2 a0_3 a0_4 a0_5 a0_6 a0_7
        bif !(t2.fst == t3.fst && t2.snd.fst == t3.snd.fst) then
          k (false)
        else
          bif t2.snd.snd != t3.snd.snd then
            k (false)
          else
            let t4 := f_fresnel_Valid a0_0 a0_1 a0_2 a0_3 a0_4 a0_5 a0_6 a0_7
            let t5 := f_culetref30_Valid a0_0 a0_1 a0_2 a0_3 a0_4 a0_5 a0_6 a0_7
            bif !t4 == t5 then
              k (false)
            else
              let t6 := f_fresnel_Reflectance a0_0 a0_1 a0_2 a0_3 a0_4 a0_5 a0_6 a0_7
              let t7 := f_culetref30_Reflectance a0_0 a0_1 a0_2 a0_3 a0_4 a0_5 a0_6 a0_7
              bif t6.fst == t7.fst && t6.snd.fst == t7.snd.fst then
                bif t6.snd.snd == t7.snd.snd then
                  let t8 := f_fresnel_Transmittance a0_0 a0_1 a0_2 a0_3 a0_4 a0_5 a0_6 a0_7
                  let t9 := f_culetref30_Transmittance a0_0 a0_1 a0_2 a0_3 a0_4 a0_5 a0_6 a0_7
                  bif t8.fst == t9.fst && t8.snd.fst == t9.snd.fst then
                    k (t8.snd.snd == t9.snd.snd)
                  else
                    k (false)
                else
                  k (false)
              else
                k (false)
set_option maxRecDepth 100000 in
theorem culetlaw30_FresnelForms.run (f_culetlaw30_awake : (Bool)) (f_fresnel_Perpendicular : Int → Int → Int → Int → Int → Int → Int → Int → (Int × Int × Int)) (f_fresnel_Parallel : Int → Int → Int → Int → Int → Int → Int → Int → (Int × Int × Int)) (f_fresnel_Reflectance : Int → Int → Int → Int → Int → Int → Int → Int → (Int × Int × Int)) (f_culetref30_Perpendicular : Int → Int → Int → Int → Int → Int → Int → Int → (Int × Int × Int)) (f_culetref30_Parallel : Int → Int → Int → Int → Int → Int → Int → Int → (Int × Int × Int)) (f_fresnel_Valid : Int → Int → Int → Int → Int → Int → Int → Int → (Bool)) (f_culetref30_Valid : Int → Int → Int → Int → Int → Int → Int → Int → (Bool)) (f_culetref30_Reflectance : Int → Int → Int → Int → Int → Int → Int → Int → (Int × Int × Int)) (f_fresnel_Transmittance : Int → Int → Int → Int → Int → Int → Int → Int → (Int × Int × Int)) (f_culetref30_Transmittance : Int → Int → Int → Int → Int → Int → Int → Int → (Int × Int × Int)) (a0_0 : Int) (a0_1 : Int) (a0_2 : Int) (a0_3 : Int) (a0_4 : Int) (a0_5 : Int) (a0_6 : Int) (a0_7 : Int) : xfn Try.prog ⟨[(9, culetlaw30_awake.sp f_culetlaw30_awake), (13, fresnel_Perpendicular.sp f_fresnel_Perpendicular), (14, fresnel_Parallel.sp f_fresnel_Parallel), (15, fresnel_Reflectance.sp f_fresnel_Reflectance), (17, culetref30_Perpendicular.sp f_culetref30_Perpendicular), (18, culetref30_Parallel.sp f_culetref30_Parallel), (19, fresnel_Valid.sp f_fresnel_Valid), (20, culetref30_Valid.sp f_culetref30_Valid), (21, culetref30_Reflectance.sp f_culetref30_Reflectance), (22, fresnel_Transmittance.sp f_fresnel_Transmittance), (23, culetref30_Transmittance.sp f_culetref30_Transmittance)], []⟩ 40 Try.f6 [.agg ⟨[.int .i64 a0_0, .int .i64 a0_1, .int .i64 a0_2, .int .i64 a0_3, .int .i64 a0_4, .int .i64 a0_5, .int .i64 a0_6, .int .i64 a0_7]⟩] [] = culetlaw30_FresnelForms.K f_culetlaw30_awake f_fresnel_Perpendicular f_fresnel_Parallel f_fresnel_Reflectance f_culetref30_Perpendicular f_culetref30_Parallel f_fresnel_Valid f_culetref30_Valid f_culetref30_Reflectance f_fresnel_Transmittance f_culetref30_Transmittance a0_0 a0_1 a0_2 a0_3 a0_4 a0_5 a0_6 a0_7 (fun r => some (.bool r, [])) := by kernel_rfl
def culetlaw30_FresnelForms (a0_0 : Int) (a0_1 : Int) (a0_2 : Int) (a0_3 : Int) (a0_4 : Int) (a0_5 : Int) (a0_6 : Int) (a0_7 : Int) : Bool := culetlaw30_FresnelForms.K culetlaw30_awake fresnel_Perpendicular fresnel_Parallel fresnel_Reflectance culetref30_Perpendicular culetref30_Parallel fresnel_Valid culetref30_Valid culetref30_Reflectance fresnel_Transmittance culetref30_Transmittance a0_0 a0_1 a0_2 a0_3 a0_4 a0_5 a0_6 a0_7 id
theorem culetlaw30_FresnelForms.nat {R : Type} (f_culetlaw30_awake : (Bool)) (f_fresnel_Perpendicular : Int → Int → Int → Int → Int → Int → Int → Int → (Int × Int × Int)) (f_fresnel_Parallel : Int → Int → Int → Int → Int → Int → Int → Int → (Int × Int × Int)) (f_fresnel_Reflectance : Int → Int → Int → Int → Int → Int → Int → Int → (Int × Int × Int)) (f_culetref30_Perpendicular : Int → Int → Int → Int → Int → Int → Int → Int → (Int × Int × Int)) (f_culetref30_Parallel : Int → Int → Int → Int → Int → Int → Int → Int → (Int × Int × Int)) (f_fresnel_Valid : Int → Int → Int → Int → Int → Int → Int → Int → (Bool)) (f_culetref30_Valid : Int → Int → Int → Int → Int → Int → Int → Int → (Bool)) (f_culetref30_Reflectance : Int → Int → Int → Int → Int → Int → Int → Int → (Int × Int × Int)) (f_fresnel_Transmittance : Int → Int → Int → Int → Int → Int → Int → Int → (Int × Int × Int)) (f_culetref30_Transmittance : Int → Int → Int → Int → Int → Int → Int → Int → (Int × Int × Int)) (a0_0 : Int) (a0_1 : Int) (a0_2 : Int) (a0_3 : Int) (a0_4 : Int) (a0_5 : Int) (a0_6 : Int) (a0_7 : Int) (k : (Bool) → R) : culetlaw30_FresnelForms.K f_culetlaw30_awake f_fresnel_Perpendicular f_fresnel_Parallel f_fresnel_Reflectance f_culetref30_Perpendicular f_culetref30_Parallel f_fresnel_Valid f_culetref30_Valid f_culetref30_Reflectance f_fresnel_Transmittance f_culetref30_Transmittance a0_0 a0_1 a0_2 a0_3 a0_4 a0_5 a0_6 a0_7 k = k (culetlaw30_FresnelForms.K f_culetlaw30_awake f_fresnel_Perpendicular f_fresnel_Parallel f_fresnel_Reflectance f_culetref30_Perpendicular f_culetref30_Parallel f_fresnel_Valid f_culetref30_Valid f_culetref30_Reflectance f_fresnel_Transmittance f_culetref30_Transmittance a0_0 a0_1 a0_2 a0_3 a0_4 a0_5 a0_6 a0_7 id) := by
  simp only [culetlaw30_FresnelForms.K, acond k, id_eq]
theorem FresnelForms.law (a0 a1 a2 a3 a4 a5 a6 a7 : Int) : culetlaw30_FresnelForms a0 a1 a2 a3 a4 a5 a6 a7 = true := by
  simp only [culetlaw30_FresnelForms, culetlaw30_FresnelForms.K, id_eq, awake_true, fresnel_Perpendicular.eq, fresnel_Parallel.eq, fresnel_Valid.eq, fresnel_Reflectance.eq, fresnel_Transmittance.eq, culetref30_Perpendicular.eq, culetref30_Parallel.eq, culetref30_Valid.eq, culetref30_Reflectance.eq, culetref30_Transmittance.eq]
  cases srf a0 a1 a2 a3 a4 a5 a6 a7 <;> simp
theorem culetlaw30_FresnelForms.calls (a0_0 : Int) (a0_1 : Int) (a0_2 : Int) (a0_3 : Int) (a0_4 : Int) (a0_5 : Int) (a0_6 : Int) (a0_7 : Int) (h : culetlaw30_FresnelForms a0_0 a0_1 a0_2 a0_3 a0_4 a0_5 a0_6 a0_7 = true) (w : World) : Calls Try.prog 6 ⟨[.agg ⟨[.int .i64 a0_0, .int .i64 a0_1, .int .i64 a0_2, .int .i64 a0_3, .int .i64 a0_4, .int .i64 a0_5, .int .i64 a0_6, .int .i64 a0_7]⟩]⟩ w fun e w' => e = .returned (.bool true) ∧ Below w.heap.size w w' := by
  refine calls_run (E := ⟨[(9, culetlaw30_awake.sp culetlaw30_awake), (13, fresnel_Perpendicular.sp fresnel_Perpendicular), (14, fresnel_Parallel.sp fresnel_Parallel), (15, fresnel_Reflectance.sp fresnel_Reflectance), (17, culetref30_Perpendicular.sp culetref30_Perpendicular), (18, culetref30_Parallel.sp culetref30_Parallel), (19, fresnel_Valid.sp fresnel_Valid), (20, culetref30_Valid.sp culetref30_Valid), (21, culetref30_Reflectance.sp culetref30_Reflectance), (22, fresnel_Transmittance.sp fresnel_Transmittance), (23, culetref30_Transmittance.sp culetref30_Transmittance)], []⟩) ⟨(specs_cons culetlaw30_awake.ok (specs_cons fresnel_Perpendicular.ok (specs_cons fresnel_Parallel.ok (specs_cons fresnel_Reflectance.ok (specs_cons culetref30_Perpendicular.ok (specs_cons culetref30_Parallel.ok (specs_cons fresnel_Valid.ok (specs_cons culetref30_Valid.ok (specs_cons culetref30_Reflectance.ok (specs_cons fresnel_Transmittance.ok (specs_cons culetref30_Transmittance.ok specs_nil))))))))))), inl_nil, mixed_ok⟩ 40 Try.func6 (by decide) rfl (vs := [.agg ⟨[.int .i64 a0_0, .int .i64 a0_1, .int .i64 a0_2, .int .i64 a0_3, .int .i64 a0_4, .int .i64 a0_5, .int .i64 a0_6, .int .i64 a0_7]⟩]) (v := .bool true) ?_ (by simp [okV, Nat.blt]) (clo_spec 8 _ rfl) w
  refine (culetlaw30_FresnelForms.run culetlaw30_awake fresnel_Perpendicular fresnel_Parallel fresnel_Reflectance culetref30_Perpendicular culetref30_Parallel fresnel_Valid culetref30_Valid culetref30_Reflectance fresnel_Transmittance culetref30_Transmittance a0_0 a0_1 a0_2 a0_3 a0_4 a0_5 a0_6 a0_7).trans ?_
  rw [culetlaw30_FresnelForms.nat]
  have h4 : culetlaw30_FresnelForms.K culetlaw30_awake fresnel_Perpendicular fresnel_Parallel fresnel_Reflectance culetref30_Perpendicular culetref30_Parallel fresnel_Valid culetref30_Valid culetref30_Reflectance fresnel_Transmittance culetref30_Transmittance a0_0 a0_1 a0_2 a0_3 a0_4 a0_5 a0_6 a0_7 id = true := h
  rw [h4]

/-! ### culet/culetlaw30.inside (24) -/
def culetlaw30_inside.K {R : Type} (a0_0 : Int) (a0_1 : Int) (k : (Bool) → R) : R :=
  bif decide (a0_0 ≥ 0) then
    bif decide (a0_1 ≤ 16777216) then
      k (decide (a0_0 ≤ a0_1))
    else
      k (false)
  else
    k (false)
set_option maxRecDepth 100000 in
theorem culetlaw30_inside.run (a0_0 : Int) (a0_1 : Int) : xfn Try.prog ⟨[], []⟩ 40 Try.f24 [.agg ⟨[.int .i64 a0_0, .int .i64 a0_1]⟩] [] = culetlaw30_inside.K a0_0 a0_1 (fun r => some (.bool r, [])) := by kernel_rfl
def culetlaw30_inside (a0_0 : Int) (a0_1 : Int) : Bool := culetlaw30_inside.K a0_0 a0_1 id
theorem culetlaw30_inside.nat {R : Type} (a0_0 : Int) (a0_1 : Int) (k : (Bool) → R) : culetlaw30_inside.K a0_0 a0_1 k = k (culetlaw30_inside.K a0_0 a0_1 id) := by
  simp only [culetlaw30_inside.K, acond k, id_eq]
theorem culetlaw30_inside.ok : SOK Try.prog 24 (culetlaw30_inside.sp culetlaw30_inside) := by
  refine sok_of (E := ⟨[], []⟩) ⟨specs_nil, inl_nil, mixed_ok⟩ 40 Try.func24 (by decide) rfl fun vs bl v bl' h => ?_
  unfold culetlaw30_inside.sp at h
  split at h
  · rename_i a0_0 a0_1
    simp only [Option.some.injEq, Prod.mk.injEq, true_and] at h
    obtain ⟨rfl, rfl⟩ := h
    refine ⟨?_, by simp [okV, Nat.blt], clo_spec 8 _ (by kernel_rfl), told_blk (by kernel_rfl)⟩
    refine (culetlaw30_inside.run a0_0 a0_1).trans ?_
    refine (culetlaw30_inside.nat a0_0 a0_1 _).trans ?_
    kernel_rfl
  · cases h

/-! ### culet/culetlaw30.FresnelConserves (7) -/
def culetlaw30_FresnelConserves.K {R : Type} (f_culetlaw30_awake : (Bool)) (f_fresnel_Reflectance : Int → Int → Int → Int → Int → Int → Int → Int → (Int × Int × Int)) (f_fresnel_Transmittance : Int → Int → Int → Int → Int → Int → Int → Int → (Int × Int × Int)) (f_culetlaw30_inside : Int → Int → (Bool)) (a0_0 : Int) (a0_1 : Int) (a0_2 : Int) (a0_3 : Int) (a0_4 : Int) (a0_5 : Int) (a0_6 : Int) (a0_7 : Int) (k : (Bool) → R) : R :=
  bif !f_culetlaw30_awake then
    k (false)
  else
    let t0 := f_fresnel_Reflectance a0_0 a0_1 a0_2 a0_3 a0_4 a0_5 a0_6 a0_7
    bif t0.snd.snd != 0 then
      let t1 := f_fresnel_Transmittance a0_0 a0_1 a0_2 a0_3 a0_4 a0_5 a0_6 a0_7
      k (t0.snd.snd == t1.snd.snd)
    else
      let t2 := f_fresnel_Transmittance a0_0 a0_1 a0_2 a0_3 a0_4 a0_5 a0_6 a0_7
      bif t2.snd.snd != 0 then
        k (t0.snd.snd == t2.snd.snd)
      else
        let t3 := f_culetlaw30_inside t0.fst t0.snd.fst
        bif t3 then
          let t4 := f_culetlaw30_inside t2.fst t2.snd.fst
          bif t4 then
            bif decide (IntKind.i64.wrap (t0.fst + t2.fst) ≤ 16777216) then
              k (decide (IntKind.i64.wrap (t0.snd.fst + t2.snd.fst) ≥ 16777216))
            else
              k (false)
          else
            k (false)
        else
          k (false)
set_option maxRecDepth 100000 in
theorem culetlaw30_FresnelConserves.run (f_culetlaw30_awake : (Bool)) (f_fresnel_Reflectance : Int → Int → Int → Int → Int → Int → Int → Int → (Int × Int × Int)) (f_fresnel_Transmittance : Int → Int → Int → Int → Int → Int → Int → Int → (Int × Int × Int)) (f_culetlaw30_inside : Int → Int → (Bool)) (a0_0 : Int) (a0_1 : Int) (a0_2 : Int) (a0_3 : Int) (a0_4 : Int) (a0_5 : Int) (a0_6 : Int) (a0_7 : Int) : xfn Try.prog ⟨[(9, culetlaw30_awake.sp f_culetlaw30_awake), (15, fresnel_Reflectance.sp f_fresnel_Reflectance), (22, fresnel_Transmittance.sp f_fresnel_Transmittance), (24, culetlaw30_inside.sp f_culetlaw30_inside)], []⟩ 40 Try.f7 [.agg ⟨[.int .i64 a0_0, .int .i64 a0_1, .int .i64 a0_2, .int .i64 a0_3, .int .i64 a0_4, .int .i64 a0_5, .int .i64 a0_6, .int .i64 a0_7]⟩] [] = culetlaw30_FresnelConserves.K f_culetlaw30_awake f_fresnel_Reflectance f_fresnel_Transmittance f_culetlaw30_inside a0_0 a0_1 a0_2 a0_3 a0_4 a0_5 a0_6 a0_7 (fun r => some (.bool r, [])) := by kernel_rfl
def culetlaw30_FresnelConserves (a0_0 : Int) (a0_1 : Int) (a0_2 : Int) (a0_3 : Int) (a0_4 : Int) (a0_5 : Int) (a0_6 : Int) (a0_7 : Int) : Bool := culetlaw30_FresnelConserves.K culetlaw30_awake fresnel_Reflectance fresnel_Transmittance culetlaw30_inside a0_0 a0_1 a0_2 a0_3 a0_4 a0_5 a0_6 a0_7 id
theorem culetlaw30_FresnelConserves.nat {R : Type} (f_culetlaw30_awake : (Bool)) (f_fresnel_Reflectance : Int → Int → Int → Int → Int → Int → Int → Int → (Int × Int × Int)) (f_fresnel_Transmittance : Int → Int → Int → Int → Int → Int → Int → Int → (Int × Int × Int)) (f_culetlaw30_inside : Int → Int → (Bool)) (a0_0 : Int) (a0_1 : Int) (a0_2 : Int) (a0_3 : Int) (a0_4 : Int) (a0_5 : Int) (a0_6 : Int) (a0_7 : Int) (k : (Bool) → R) : culetlaw30_FresnelConserves.K f_culetlaw30_awake f_fresnel_Reflectance f_fresnel_Transmittance f_culetlaw30_inside a0_0 a0_1 a0_2 a0_3 a0_4 a0_5 a0_6 a0_7 k = k (culetlaw30_FresnelConserves.K f_culetlaw30_awake f_fresnel_Reflectance f_fresnel_Transmittance f_culetlaw30_inside a0_0 a0_1 a0_2 a0_3 a0_4 a0_5 a0_6 a0_7 id) := by
  simp only [culetlaw30_FresnelConserves.K, acond k, id_eq]
theorem FresnelConserves.law (a0 a1 a2 a3 a4 a5 a6 a7 : Int) : culetlaw30_FresnelConserves a0 a1 a2 a3 a4 a5 a6 a7 = true := by
  simp only [culetlaw30_FresnelConserves, culetlaw30_FresnelConserves.K, id_eq, awake_true, fresnel_Reflectance.eq, fresnel_Transmittance.eq, culetlaw30_inside, culetlaw30_inside.K]
  rcases bnd_cases (refl a0 a1 a2 a3 a4 a5 a6 a7) (fun x y => isub 16777216 16777216 x y) with ⟨e, h⟩ | ⟨e, h⟩
  · rw [show trn a0 a1 a2 a3 a4 a5 a6 a7 = (0, 0, (refl a0 a1 a2 a3 a4 a5 a6 a7).2.2) from h]
    simp [bne_of e]
  · have hr := refl_range e
    rw [trn_of e]
    generalize refl a0 a1 a2 a3 a4 a5 a6 a7 = r at *
    obtain ⟨x, y, z⟩ := r
    simp only [Prod.mk.injEq, true_and] at e
    subst e
    simp only at hr
    simp only [bne_self_eq_false, cond_false, Bool.not_true]
    rw [w64 (by omega) (by omega), w64 (by omega) (by omega)]
    have d1 : x ≥ 0 := by omega
    have d2 : y ≤ 16777216 := by omega
    have d3 : x ≤ y := by omega
    have d4 : 16777216 - y ≥ 0 := by omega
    have d5 : 16777216 - x ≤ 16777216 := by omega
    have d6 : 16777216 - y ≤ 16777216 - x := by omega
    have d7 : x + (16777216 - y) ≤ 16777216 := by omega
    have d8 : y + (16777216 - x) ≥ 16777216 := by omega
    simp only [d1, d2, d3, d4, d5, d6, d7, d8, decide_true, cond_true]
theorem culetlaw30_FresnelConserves.calls (a0_0 : Int) (a0_1 : Int) (a0_2 : Int) (a0_3 : Int) (a0_4 : Int) (a0_5 : Int) (a0_6 : Int) (a0_7 : Int) (h : culetlaw30_FresnelConserves a0_0 a0_1 a0_2 a0_3 a0_4 a0_5 a0_6 a0_7 = true) (w : World) : Calls Try.prog 7 ⟨[.agg ⟨[.int .i64 a0_0, .int .i64 a0_1, .int .i64 a0_2, .int .i64 a0_3, .int .i64 a0_4, .int .i64 a0_5, .int .i64 a0_6, .int .i64 a0_7]⟩]⟩ w fun e w' => e = .returned (.bool true) ∧ Below w.heap.size w w' := by
  refine calls_run (E := ⟨[(9, culetlaw30_awake.sp culetlaw30_awake), (15, fresnel_Reflectance.sp fresnel_Reflectance), (22, fresnel_Transmittance.sp fresnel_Transmittance), (24, culetlaw30_inside.sp culetlaw30_inside)], []⟩) ⟨(specs_cons culetlaw30_awake.ok (specs_cons fresnel_Reflectance.ok (specs_cons fresnel_Transmittance.ok (specs_cons culetlaw30_inside.ok specs_nil)))), inl_nil, mixed_ok⟩ 40 Try.func7 (by decide) rfl (vs := [.agg ⟨[.int .i64 a0_0, .int .i64 a0_1, .int .i64 a0_2, .int .i64 a0_3, .int .i64 a0_4, .int .i64 a0_5, .int .i64 a0_6, .int .i64 a0_7]⟩]) (v := .bool true) ?_ (by simp [okV, Nat.blt]) (clo_spec 8 _ rfl) w
  refine (culetlaw30_FresnelConserves.run culetlaw30_awake fresnel_Reflectance fresnel_Transmittance culetlaw30_inside a0_0 a0_1 a0_2 a0_3 a0_4 a0_5 a0_6 a0_7).trans ?_
  rw [culetlaw30_FresnelConserves.nat]
  have h4 : culetlaw30_FresnelConserves.K culetlaw30_awake fresnel_Reflectance fresnel_Transmittance culetlaw30_inside a0_0 a0_1 a0_2 a0_3 a0_4 a0_5 a0_6 a0_7 id = true := h
  rw [h4]

/-! ### culet/culetlaw30.within (25) -/
def culetlaw30_within.K {R : Type} (a0_0 : Int) (a0_1 : Int) (a1 : Int) (a2 : Int) (k : Int × Int → Option R) : Option R :=
  bif IntKind.i64.wrap (IntKind.i64.wrap (a0_1 - a0_0) + 1) != 0 then
    bif IntKind.i64.wrap (IntKind.i64.wrap (a0_1 - a0_0) + 1) != 0 then
      k (if IntKind.i64.wrap (a0_0 + (IntKind.i64.wrap a2).tmod (IntKind.i64.wrap (IntKind.i64.wrap (a0_1 - a0_0) + 1))) < IntKind.i64.wrap (a0_0 + (IntKind.i64.wrap a1).tmod (IntKind.i64.wrap (IntKind.i64.wrap (a0_1 - a0_0) + 1))) then IntKind.i64.wrap (a0_0 + (IntKind.i64.wrap a2).tmod (IntKind.i64.wrap (IntKind.i64.wrap (a0_1 - a0_0) + 1))) else IntKind.i64.wrap (a0_0 + (IntKind.i64.wrap a1).tmod (IntKind.i64.wrap (IntKind.i64.wrap (a0_1 - a0_0) + 1))), if IntKind.i64.wrap (a0_0 + (IntKind.i64.wrap a2).tmod (IntKind.i64.wrap (IntKind.i64.wrap (a0_1 - a0_0) + 1))) > IntKind.i64.wrap (a0_0 + (IntKind.i64.wrap a1).tmod (IntKind.i64.wrap (IntKind.i64.wrap (a0_1 - a0_0) + 1))) then IntKind.i64.wrap (a0_0 + (IntKind.i64.wrap a2).tmod (IntKind.i64.wrap (IntKind.i64.wrap (a0_1 - a0_0) + 1))) else IntKind.i64.wrap (a0_0 + (IntKind.i64.wrap a1).tmod (IntKind.i64.wrap (IntKind.i64.wrap (a0_1 - a0_0) + 1))))
    else
      none
  else
    none
set_option maxRecDepth 100000 in
theorem culetlaw30_within.run (a0_0 : Int) (a0_1 : Int) (a1 : Int) (a2 : Int) : xfn Try.prog ⟨[], []⟩ 40 Try.f25 [.agg ⟨[.int .i64 a0_0, .int .i64 a0_1]⟩, .int .u32 a1, .int .u32 a2] [] = culetlaw30_within.K a0_0 a0_1 a1 a2 (fun r => some (.agg ⟨[.int .i64 r.1, .int .i64 r.2]⟩, [])) := by kernel_rfl
def culetlaw30_within.o (a0_0 : Int) (a0_1 : Int) (a1 : Int) (a2 : Int) : Option (Int × Int) := culetlaw30_within.K a0_0 a0_1 a1 a2 some
def culetlaw30_within.pre (a0_0 : Int) (a0_1 : Int) (a1 : Int) (a2 : Int) : Bool := (culetlaw30_within.o a0_0 a0_1 a1 a2).isSome
def culetlaw30_within (a0_0 : Int) (a0_1 : Int) (a1 : Int) (a2 : Int) : Int × Int := (culetlaw30_within.o a0_0 a0_1 a1 a2).getD default
theorem culetlaw30_within.nat {R : Type} (a0_0 : Int) (a0_1 : Int) (a1 : Int) (a2 : Int) (k : Int × Int → Option R) : culetlaw30_within.K a0_0 a0_1 a1 a2 k = (culetlaw30_within.K a0_0 a0_1 a1 a2 some).bind k := by
  simp only [culetlaw30_within.K, bcond, Option.bind_some, Option.bind_none]
theorem culetlaw30_within.in {a b k l : Int} (ha : 0 ≤ a) (hab : a ≤ b) (hb : b ≤ 67108864) (hk : 0 ≤ k) (hk' : k ≤ 4294967295) (hl : 0 ≤ l) (hl' : l ≤ 4294967295) : culetlaw30_within.pre a b k l = true ∧ In (culetlaw30_within a b k l).1 (culetlaw30_within a b k l).2 a b := by
  have w1 : IntKind.i64.wrap (b - a) = b - a := w64 (by omega) (by omega)
  have w2 : IntKind.i64.wrap (b - a + 1) = b - a + 1 := w64 (by omega) (by omega)
  have w3 : IntKind.i64.wrap k = k := w64 (by omega) (by omega)
  have w4 : IntKind.i64.wrap l = l := w64 (by omega) (by omega)
  have n0 : (b - a + 1 != 0) = true := by simp; omega
  have t1 := Int.tmod_nonneg (b - a + 1) hk
  have t2 := Int.tmod_lt_of_pos k (show 0 < b - a + 1 by omega)
  have t3 := Int.tmod_nonneg (b - a + 1) hl
  have t4 := Int.tmod_lt_of_pos l (show 0 < b - a + 1 by omega)
  generalize hx : k.tmod (b - a + 1) = x at *
  generalize hy : l.tmod (b - a + 1) = y at *
  have w5 : IntKind.i64.wrap (a + x) = a + x := w64 (by omega) (by omega)
  have w6 : IntKind.i64.wrap (a + y) = a + y := w64 (by omega) (by omega)
  have ho : culetlaw30_within.o a b k l = some (if a + y < a + x then a + y else a + x, if a + y > a + x then a + y else a + x) := by
    simp only [culetlaw30_within.o, culetlaw30_within.K, w1, w2, w3, w4, n0, hx, hy, w5, w6, cond_true]
  have h2 : culetlaw30_within a b k l = (if a + y < a + x then a + y else a + x, if a + y > a + x then a + y else a + x) := by unfold culetlaw30_within; rw [ho]; rfl
  refine ⟨by unfold culetlaw30_within.pre; rw [ho]; rfl, ?_⟩
  rw [h2]
  unfold In
  split <;> split <;> simp only <;> omega
theorem culetlaw30_within.ok : SOK Try.prog 25 (culetlaw30_within.sp culetlaw30_within culetlaw30_within.pre) := by
  refine sok_of (E := ⟨[], []⟩) ⟨specs_nil, inl_nil, mixed_ok⟩ 40 Try.func25 (by decide) rfl fun vs bl v bl' h => ?_
  unfold culetlaw30_within.sp at h
  split at h
  · rename_i a0_0 a0_1 a1 a2
    simp only [Option.some.injEq, Prod.mk.injEq] at h
    obtain ⟨hp, rfl, rfl⟩ := h
    have hr := culetlaw30_within.run a0_0 a0_1 a1 a2
    rw [culetlaw30_within.nat] at hr
    obtain ⟨r, h2⟩ := Option.isSome_iff_exists.1 (hp : (culetlaw30_within.o a0_0 a0_1 a1 a2).isSome = true)
    have h3 : culetlaw30_within a0_0 a0_1 a1 a2 = r := by unfold culetlaw30_within; rw [h2]; rfl
    have h4 : culetlaw30_within.K a0_0 a0_1 a1 a2 some = some r := h2
    rw [h4, Option.bind_some] at hr
    rw [h3]
    exact ⟨hr, by simp [okV, Nat.blt], clo_spec 8 _ (by kernel_rfl), told_blk (by kernel_rfl)⟩
  · cases h

/-! ### culet/culetref27.Inside (26) -/
def culetref27_Inside.K {R : Type} (f_culetref27_both : Int → Int → Int → Int → (Bool)) (a0_0 : Int) (a0_1 : Int) (a1_0 : Int) (a1_1 : Int) (k : (Bool) → R) : R :=
  let t0 := f_culetref27_both a0_0 a0_1 a1_0 a1_1
  bif t0 then
    bif decide (a1_0 ≤ a0_0) then
      k (decide (a0_1 ≤ a1_1))
    else
      k (false)
  else
    k (false)
set_option maxRecDepth 100000 in
theorem culetref27_Inside.run (f_culetref27_both : Int → Int → Int → Int → (Bool)) (a0_0 : Int) (a0_1 : Int) (a1_0 : Int) (a1_1 : Int) : xfn Try.prog ⟨[(41, culetref27_both.sp f_culetref27_both)], []⟩ 40 Try.f26 [.agg ⟨[.int .i64 a0_0, .int .i64 a0_1]⟩, .agg ⟨[.int .i64 a1_0, .int .i64 a1_1]⟩] [] = culetref27_Inside.K f_culetref27_both a0_0 a0_1 a1_0 a1_1 (fun r => some (.bool r, [])) := by kernel_rfl
def culetref27_Inside (a0_0 : Int) (a0_1 : Int) (a1_0 : Int) (a1_1 : Int) : Bool := culetref27_Inside.K culetref27_both a0_0 a0_1 a1_0 a1_1 id
theorem culetref27_Inside.nat {R : Type} (f_culetref27_both : Int → Int → Int → Int → (Bool)) (a0_0 : Int) (a0_1 : Int) (a1_0 : Int) (a1_1 : Int) (k : (Bool) → R) : culetref27_Inside.K f_culetref27_both a0_0 a0_1 a1_0 a1_1 k = k (culetref27_Inside.K f_culetref27_both a0_0 a0_1 a1_0 a1_1 id) := by
  simp only [culetref27_Inside.K, acond k, id_eq]
theorem culetref27_Inside.ok : SOK Try.prog 26 (culetref27_Inside.sp culetref27_Inside) := by
  refine sok_of (E := ⟨[(41, culetref27_both.sp culetref27_both)], []⟩) ⟨(specs_cons culetref27_both.ok specs_nil), inl_nil, mixed_ok⟩ 40 Try.func26 (by decide) rfl fun vs bl v bl' h => ?_
  unfold culetref27_Inside.sp at h
  split at h
  · rename_i a0_0 a0_1 a1_0 a1_1
    simp only [Option.some.injEq, Prod.mk.injEq, true_and] at h
    obtain ⟨rfl, rfl⟩ := h
    refine ⟨?_, by simp [okV, Nat.blt], clo_spec 8 _ (by kernel_rfl), told_blk (by kernel_rfl)⟩
    refine (culetref27_Inside.run culetref27_both a0_0 a0_1 a1_0 a1_1).trans ?_
    refine (culetref27_Inside.nat culetref27_both a0_0 a0_1 a1_0 a1_1 _).trans ?_
    kernel_rfl
  · cases h

/-! ### culet/culetlaw30.FresnelInclusion (8) -/
def culetlaw30_FresnelInclusion.K {R : Type} (f_culetlaw30_awake : (Bool)) (f_fresnel_Reflectance : Int → Int → Int → Int → Int → Int → Int → Int → (Int × Int × Int)) (f_culetref30_Valid : Int → Int → Int → Int → Int → Int → Int → Int → (Bool)) (f_fresnel_Transmittance : Int → Int → Int → Int → Int → Int → Int → Int → (Int × Int × Int)) (f_culetlaw30_within : Int → Int → Int → Int → (Int × Int)) (p_culetlaw30_within : Int → Int → Int → Int → Bool) (f_culetref27_Inside : Int → Int → Int → Int → (Bool)) (a0_0 : Int) (a0_1 : Int) (a0_2 : Int) (a0_3 : Int) (a0_4 : Int) (a0_5 : Int) (a0_6 : Int) (a0_7 : Int) (a1_0 : Int) (a1_1 : Int) (a1_2 : Int) (a1_3 : Int) (a1_4 : Int) (a1_5 : Int) (a1_6 : Int) (a1_7 : Int) (k : (Bool) → Option R) : Option R :=
  bif !f_culetlaw30_awake then
    k (false)
  else
    let t0 := f_culetref30_Valid a0_0 a0_1 a0_2 a0_3 a0_4 a0_5 a0_6 a0_7
    bif !t0 then
      k (true)
    else
      let t1 := p_culetlaw30_within a0_0 a0_1 a1_0 a1_1
      bif t1 then
        let t2 := p_culetlaw30_within a0_2 a0_3 a1_2 a1_3
        bif t2 then
          let t3 := p_culetlaw30_within a0_4 a0_5 a1_4 a1_5
          bif t3 then
            let t4 := p_culetlaw30_within a0_6 a0_7 a1_6 a1_7
            bif t4 then
              let t5 := f_fresnel_Reflectance a0_0 a0_1 a0_2 a0_3 a0_4 a0_5 a0_6 a0_7
              bif t5.snd.snd != 0 then
                k (true)
              else
                let t6 := f_fresnel_Transmittance a0_0 a0_1 a0_2 a0_3 a0_4 a0_5 a0_6 a0_7
                bif t6.snd.snd == 0 then
                  let t7 := f_culetlaw30_within a0_0 a0_1 a1_0 a1_1
                  let t8 := f_culetlaw30_within a0_2 a0_3 a1_2 a1_3
                  let t9 := f_culetlaw30_within a0_4 a0_5 a1_4 a1_5
                  let t10 := f_culetlaw30_within a0_6 a0_7 a1_6 a1_7
                  let t11 := f_fresnel_Reflectance t7.fst t7.snd t8.fst t8.snd t9.fst t9.snd t10.fst t10.snd
                  bif t11.snd.snd == 0 then
                    let t12 := f_fresnel_Transmittance t7.fst t7.snd t8.fst t8.snd t9.fst t9.snd t10.fst t10.snd
                    bif t12.snd.snd == 0 then
                      let t13 := f_culetref27_Inside t11.fst t11.snd.fst t5.fst t5.snd.fst
                      bif t13 then
                        let t14 := f_culetref27_Inside t12.fst t12.snd.fst t6.fst t6.snd.fst
                        k (t14)
                      else
                        k (false)
                    else
                      k (false)
                  else
                    k (false)
                else
                  k (false)
            else
              none
          else
            none
        else
          none
      else
        none
set_option maxRecDepth 100000 in
theorem culetlaw30_FresnelInclusion.run (f_culetlaw30_awake : (Bool)) (f_fresnel_Reflectance : Int → Int → Int → Int → Int → Int → Int → Int → (Int × Int × Int)) (f_culetref30_Valid : Int → Int → Int → Int → Int → Int → Int → Int → (Bool)) (f_fresnel_Transmittance : Int → Int → Int → Int → Int → Int → Int → Int → (Int × Int × Int)) (f_culetlaw30_within : Int → Int → Int → Int → (Int × Int)) (p_culetlaw30_within : Int → Int → Int → Int → Bool) (f_culetref27_Inside : Int → Int → Int → Int → (Bool)) (a0_0 : Int) (a0_1 : Int) (a0_2 : Int) (a0_3 : Int) (a0_4 : Int) (a0_5 : Int) (a0_6 : Int) (a0_7 : Int) (a1_0 : Int) (a1_1 : Int) (a1_2 : Int) (a1_3 : Int) (a1_4 : Int) (a1_5 : Int) (a1_6 : Int) (a1_7 : Int) : xfn Try.prog ⟨[(9, culetlaw30_awake.sp f_culetlaw30_awake), (15, fresnel_Reflectance.sp f_fresnel_Reflectance), (20, culetref30_Valid.sp f_culetref30_Valid), (22, fresnel_Transmittance.sp f_fresnel_Transmittance), (25, culetlaw30_within.sp f_culetlaw30_within p_culetlaw30_within), (26, culetref27_Inside.sp f_culetref27_Inside)], []⟩ 40 Try.f8 [.agg ⟨[.int .i64 a0_0, .int .i64 a0_1, .int .i64 a0_2, .int .i64 a0_3, .int .i64 a0_4, .int .i64 a0_5, .int .i64 a0_6, .int .i64 a0_7]⟩, .agg ⟨[.int .u32 a1_0, .int .u32 a1_1, .int .u32 a1_2, .int .u32 a1_3, .int .u32 a1_4, .int .u32 a1_5, .int .u32 a1_6, .int .u32 a1_7]⟩] [] = culetlaw30_FresnelInclusion.K f_culetlaw30_awake f_fresnel_Reflectance f_culetref30_Valid f_fresnel_Transmittance f_culetlaw30_within p_culetlaw30_within f_culetref27_Inside a0_0 a0_1 a0_2 a0_3 a0_4 a0_5 a0_6 a0_7 a1_0 a1_1 a1_2 a1_3 a1_4 a1_5 a1_6 a1_7 (fun r => some (.bool r, [])) := by kernel_rfl
def culetlaw30_FresnelInclusion.o (a0_0 : Int) (a0_1 : Int) (a0_2 : Int) (a0_3 : Int) (a0_4 : Int) (a0_5 : Int) (a0_6 : Int) (a0_7 : Int) (a1_0 : Int) (a1_1 : Int) (a1_2 : Int) (a1_3 : Int) (a1_4 : Int) (a1_5 : Int) (a1_6 : Int) (a1_7 : Int) : Option (Bool) := culetlaw30_FresnelInclusion.K culetlaw30_awake fresnel_Reflectance culetref30_Valid fresnel_Transmittance culetlaw30_within culetlaw30_within.pre culetref27_Inside a0_0 a0_1 a0_2 a0_3 a0_4 a0_5 a0_6 a0_7 a1_0 a1_1 a1_2 a1_3 a1_4 a1_5 a1_6 a1_7 some
def culetlaw30_FresnelInclusion.pre (a0_0 : Int) (a0_1 : Int) (a0_2 : Int) (a0_3 : Int) (a0_4 : Int) (a0_5 : Int) (a0_6 : Int) (a0_7 : Int) (a1_0 : Int) (a1_1 : Int) (a1_2 : Int) (a1_3 : Int) (a1_4 : Int) (a1_5 : Int) (a1_6 : Int) (a1_7 : Int) : Bool := (culetlaw30_FresnelInclusion.o a0_0 a0_1 a0_2 a0_3 a0_4 a0_5 a0_6 a0_7 a1_0 a1_1 a1_2 a1_3 a1_4 a1_5 a1_6 a1_7).isSome
def culetlaw30_FresnelInclusion (a0_0 : Int) (a0_1 : Int) (a0_2 : Int) (a0_3 : Int) (a0_4 : Int) (a0_5 : Int) (a0_6 : Int) (a0_7 : Int) (a1_0 : Int) (a1_1 : Int) (a1_2 : Int) (a1_3 : Int) (a1_4 : Int) (a1_5 : Int) (a1_6 : Int) (a1_7 : Int) : Bool := (culetlaw30_FresnelInclusion.o a0_0 a0_1 a0_2 a0_3 a0_4 a0_5 a0_6 a0_7 a1_0 a1_1 a1_2 a1_3 a1_4 a1_5 a1_6 a1_7).getD default
theorem culetlaw30_FresnelInclusion.nat {R : Type} (f_culetlaw30_awake : (Bool)) (f_fresnel_Reflectance : Int → Int → Int → Int → Int → Int → Int → Int → (Int × Int × Int)) (f_culetref30_Valid : Int → Int → Int → Int → Int → Int → Int → Int → (Bool)) (f_fresnel_Transmittance : Int → Int → Int → Int → Int → Int → Int → Int → (Int × Int × Int)) (f_culetlaw30_within : Int → Int → Int → Int → (Int × Int)) (p_culetlaw30_within : Int → Int → Int → Int → Bool) (f_culetref27_Inside : Int → Int → Int → Int → (Bool)) (a0_0 : Int) (a0_1 : Int) (a0_2 : Int) (a0_3 : Int) (a0_4 : Int) (a0_5 : Int) (a0_6 : Int) (a0_7 : Int) (a1_0 : Int) (a1_1 : Int) (a1_2 : Int) (a1_3 : Int) (a1_4 : Int) (a1_5 : Int) (a1_6 : Int) (a1_7 : Int) (k : (Bool) → Option R) : culetlaw30_FresnelInclusion.K f_culetlaw30_awake f_fresnel_Reflectance f_culetref30_Valid f_fresnel_Transmittance f_culetlaw30_within p_culetlaw30_within f_culetref27_Inside a0_0 a0_1 a0_2 a0_3 a0_4 a0_5 a0_6 a0_7 a1_0 a1_1 a1_2 a1_3 a1_4 a1_5 a1_6 a1_7 k = (culetlaw30_FresnelInclusion.K f_culetlaw30_awake f_fresnel_Reflectance f_culetref30_Valid f_fresnel_Transmittance f_culetlaw30_within p_culetlaw30_within f_culetref27_Inside a0_0 a0_1 a0_2 a0_3 a0_4 a0_5 a0_6 a0_7 a1_0 a1_1 a1_2 a1_3 a1_4 a1_5 a1_6 a1_7 some).bind k := by
  simp only [culetlaw30_FresnelInclusion.K, bcond, Option.bind_some, Option.bind_none]
theorem FresnelInclusion.law {a0 a1 a2 a3 a4 a5 a6 a7 k0 k1 k2 k3 k4 k5 k6 k7 : Int} (h0 : 0 ≤ k0 ∧ k0 ≤ 4294967295) (h1 : 0 ≤ k1 ∧ k1 ≤ 4294967295) (h2 : 0 ≤ k2 ∧ k2 ≤ 4294967295) (h3 : 0 ≤ k3 ∧ k3 ≤ 4294967295) (h4 : 0 ≤ k4 ∧ k4 ≤ 4294967295) (h5 : 0 ≤ k5 ∧ k5 ≤ 4294967295) (h6 : 0 ≤ k6 ∧ k6 ≤ 4294967295) (h7 : 0 ≤ k7 ∧ k7 ≤ 4294967295) : culetlaw30_FresnelInclusion.o a0 a1 a2 a3 a4 a5 a6 a7 k0 k1 k2 k3 k4 k5 k6 k7 = some true := by
  simp only [culetlaw30_FresnelInclusion.o, culetlaw30_FresnelInclusion.K, awake_true, culetref30_Valid.eq, fresnel_Reflectance.eq, fresnel_Transmittance.eq, Bool.not_true, cond_false]
  cases hs : srf a0 a1 a2 a3 a4 a5 a6 a7 with
  | false => rfl
  | true =>
    have hv := srf_iff.1 hs
    have i0 := culetlaw30_within.in (a := a0) (b := a1) (k := k0) (l := k1) (by omega) (by omega) (by omega) h0.1 h0.2 h1.1 h1.2
    have i1 := culetlaw30_within.in (a := a2) (b := a3) (k := k2) (l := k3) (by omega) (by omega) (by omega) h2.1 h2.2 h3.1 h3.2
    have i2 := culetlaw30_within.in (a := a4) (b := a5) (k := k4) (l := k5) (by omega) (by omega) (by omega) h4.1 h4.2 h5.1 h5.2
    have i3 := culetlaw30_within.in (a := a6) (b := a7) (k := k6) (l := k7) (by omega) (by omega) (by omega) h6.1 h6.2 h7.1 h7.2
    simp only [i0.1, i1.1, i2.1, i3.1, Bool.not_true, cond_false, cond_true]
    by_cases he : (refl a0 a1 a2 a3 a4 a5 a6 a7).2.2 = 0
    · have e : refl a0 a1 a2 a3 a4 a5 a6 a7 = ((refl a0 a1 a2 a3 a4 a5 a6 a7).1, (refl a0 a1 a2 a3 a4 a5 a6 a7).2.1, 0) := by rw [← he]
      obtain ⟨l, u, f1, f2, f3⟩ := refl_inc i0.2 i1.2 i2.2 i3.2 hs e
      have g1 := refl_range f1
      have g2 := refl_range e
      rw [trn_of e, trn_of f1, f1]
      generalize refl a0 a1 a2 a3 a4 a5 a6 a7 = r at *
      obtain ⟨x, y, z⟩ := r
      simp only at he
      subst he
      simp only at g2 f2 f3 ⊢
      unfold In at f2
      have v1 : V l u = true := V_iff.2 (by omega)
      have v2 : V x y = true := V_iff.2 (by omega)
      have v3 : V (16777216 - u) (16777216 - l) = true := V_iff.2 (by omega)
      have v4 : V (16777216 - y) (16777216 - x) = true := V_iff.2 (by omega)
      have d1 : x ≤ l := by omega
      have d2 : u ≤ y := by omega
      have d3 : 16777216 - y ≤ 16777216 - u := by omega
      have d4 : 16777216 - l ≤ 16777216 - x := by omega
      simp only [culetref27_Inside, culetref27_Inside.K, id_eq, culetref27_both.eq, v1, v2, v3, v4, d1, d2, d3, d4, Bool.and_self, cond_true, decide_true, bne_self_eq_false, cond_false, beq_self_eq_true]
    · have hb : ((refl a0 a1 a2 a3 a4 a5 a6 a7).2.2 != 0) = true := by simp [he]
      simp only [hb, cond_true]
theorem culetlaw30_FresnelInclusion.calls (a0_0 : Int) (a0_1 : Int) (a0_2 : Int) (a0_3 : Int) (a0_4 : Int) (a0_5 : Int) (a0_6 : Int) (a0_7 : Int) (a1_0 : Int) (a1_1 : Int) (a1_2 : Int) (a1_3 : Int) (a1_4 : Int) (a1_5 : Int) (a1_6 : Int) (a1_7 : Int) (h : culetlaw30_FresnelInclusion.o a0_0 a0_1 a0_2 a0_3 a0_4 a0_5 a0_6 a0_7 a1_0 a1_1 a1_2 a1_3 a1_4 a1_5 a1_6 a1_7 = some true) (w : World) : Calls Try.prog 8 ⟨[.agg ⟨[.int .i64 a0_0, .int .i64 a0_1, .int .i64 a0_2, .int .i64 a0_3, .int .i64 a0_4, .int .i64 a0_5, .int .i64 a0_6, .int .i64 a0_7]⟩, .agg ⟨[.int .u32 a1_0, .int .u32 a1_1, .int .u32 a1_2, .int .u32 a1_3, .int .u32 a1_4, .int .u32 a1_5, .int .u32 a1_6, .int .u32 a1_7]⟩]⟩ w fun e w' => e = .returned (.bool true) ∧ Below w.heap.size w w' := by
  refine calls_run (E := ⟨[(9, culetlaw30_awake.sp culetlaw30_awake), (15, fresnel_Reflectance.sp fresnel_Reflectance), (20, culetref30_Valid.sp culetref30_Valid), (22, fresnel_Transmittance.sp fresnel_Transmittance), (25, culetlaw30_within.sp culetlaw30_within culetlaw30_within.pre), (26, culetref27_Inside.sp culetref27_Inside)], []⟩) ⟨(specs_cons culetlaw30_awake.ok (specs_cons fresnel_Reflectance.ok (specs_cons culetref30_Valid.ok (specs_cons fresnel_Transmittance.ok (specs_cons culetlaw30_within.ok (specs_cons culetref27_Inside.ok specs_nil)))))), inl_nil, mixed_ok⟩ 40 Try.func8 (by decide) rfl (vs := [.agg ⟨[.int .i64 a0_0, .int .i64 a0_1, .int .i64 a0_2, .int .i64 a0_3, .int .i64 a0_4, .int .i64 a0_5, .int .i64 a0_6, .int .i64 a0_7]⟩, .agg ⟨[.int .u32 a1_0, .int .u32 a1_1, .int .u32 a1_2, .int .u32 a1_3, .int .u32 a1_4, .int .u32 a1_5, .int .u32 a1_6, .int .u32 a1_7]⟩]) (v := .bool true) ?_ (by simp [okV, Nat.blt]) (clo_spec 8 _ rfl) w
  refine (culetlaw30_FresnelInclusion.run culetlaw30_awake fresnel_Reflectance culetref30_Valid fresnel_Transmittance culetlaw30_within culetlaw30_within.pre culetref27_Inside a0_0 a0_1 a0_2 a0_3 a0_4 a0_5 a0_6 a0_7 a1_0 a1_1 a1_2 a1_3 a1_4 a1_5 a1_6 a1_7).trans ?_
  rw [culetlaw30_FresnelInclusion.nat]
  have h4 : culetlaw30_FresnelInclusion.K culetlaw30_awake fresnel_Reflectance culetref30_Valid fresnel_Transmittance culetlaw30_within culetlaw30_within.pre culetref27_Inside a0_0 a0_1 a0_2 a0_3 a0_4 a0_5 a0_6 a0_7 a1_0 a1_1 a1_2 a1_3 a1_4 a1_5 a1_6 a1_7 some = some true := h
  rw [h4]
  rfl

end Go.Proofs.Ytommeheenogjgaa.G
