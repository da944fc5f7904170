/- The functions, their runs and their contracts. WRITTEN BY gen.py of this repo. -/
import Derived.Test.YtpghmdjjkpjnfaaDoorS
import Derived.Test.YtpghmdjjkpjnfaaDoorM
import Derived.Test.YtpghmdjjkpjnfaaDoorIv
import Derived.Test.YtpghmdjjkpjnfaaDoorSq
import Derived.Test.YtpghmdjjkpjnfaaDoorExt
import Derived.Test.YtpghmdjjkpjnfaaDoorNear27
import Derived.Test.YtpghmdjjkpjnfaaDoorRoot
import Derived.Test.YtpghmdjjkpjnfaaDoorXwk27
namespace Go.Proofs.YtpghmdjjkpjnfaaDoor.G
open Go Go.Proofs Go.RowKit RX
set_option linter.unusedVariables false
set_option linter.unusedSimpArgs false
/-! ### culet/interval.Valid (45) -/
def interval_Valid.K {R : Type} (a0_0 : Int) (a0_1 : Int) (k : (Bool) → R) : R :=
  bif decide (a0_0 ≤ a0_1) then
    bif decide (a0_0 ≥ -1073741824) then
      k (decide (a0_1 ≤ 1073741824))
    else
      k (false)
  else
    k (false)
set_option maxRecDepth 100000 in
theorem interval_Valid.run (a0_0 : Int) (a0_1 : Int) : xfn Tryd.prog ⟨[], []⟩ [] 40 Tryd.f45 [.agg ⟨[.int .i64 a0_0, .int .i64 a0_1]⟩] [] = interval_Valid.K a0_0 a0_1 (fun r => some (.bool r, [])) := by kernel_rfl
def interval_Valid (a0_0 : Int) (a0_1 : Int) : Bool := interval_Valid.K a0_0 a0_1 id
theorem interval_Valid.nat {R : Type} (a0_0 : Int) (a0_1 : Int) (k : (Bool) → R) : interval_Valid.K a0_0 a0_1 k = k (interval_Valid.K a0_0 a0_1 id) := by
  simp only [interval_Valid.K, acond k, id_eq]
theorem interval_Valid.eq (a b : Int) : interval_Valid a b = V a b := by
  simp only [interval_Valid, interval_Valid.K, id_eq, V]
  by_cases h1 : a ≤ b <;> by_cases h2 : a ≥ -1073741824 <;> by_cases h3 : b ≤ 1073741824 <;> simp [h1, h2, h3] <;> omega
theorem interval_Valid.ok : SOK Tryd.prog 45 (interval_Valid.sp interval_Valid) := by
  refine sok_of (E := ⟨[], []⟩) (L := []) ⟨specs_nil, inl_nil, mixed_ok⟩ 40 Tryd.func45 (by decide) rfl no_loops fun vs bl v bl' h => ?_
  unfold interval_Valid.sp at h
  split at h
  · rename_i a0_0 a0_1
    simp only [Option.some.injEq, Prod.mk.injEq, true_and] at h
    obtain ⟨rfl, rfl⟩ := h
    refine ⟨?_, by simp [okV, Nat.blt], clo_spec 8 _ (by kernel_rfl), told_blk (by kernel_rfl)⟩
    refine (interval_Valid.run a0_0 a0_1).trans ?_
    refine (interval_Valid.nat a0_0 a0_1 _).trans ?_
    kernel_rfl
  · cases h

/-! ### culet/interval.made (37) -/
def interval_made.K {R : Type} (a0 : Int) (a1 : Int) (k : Int × Int × Int → R) : R :=
  bif decide (a0 < -1073741824) then
    k (0, 0, 3)
  else
    bif decide (a1 > 1073741824) then
      k (0, 0, 3)
    else
      k (a0, a1, 0)
set_option maxRecDepth 100000 in
theorem interval_made.run (a0 : Int) (a1 : Int) : xfn Tryd.prog ⟨[], []⟩ [] 40 Tryd.f37 [.int .i64 a0, .int .i64 a1] [] = interval_made.K a0 a1 (fun r => some (.tuple ⟨[.agg ⟨[.int .i64 r.1, .int .i64 r.2.1]⟩, .int .i64 r.2.2]⟩, [])) := by kernel_rfl
def interval_made (a0 : Int) (a1 : Int) : Int × Int × Int := interval_made.K a0 a1 id
theorem interval_made.nat {R : Type} (a0 : Int) (a1 : Int) (k : Int × Int × Int → R) : interval_made.K a0 a1 k = k (interval_made.K a0 a1 id) := by
  simp only [interval_made.K, acond k, id_eq]
theorem interval_made.eq {a b : Int} (h : a ≤ b) : interval_made a b = chk a b := by
  simp only [interval_made, interval_made.K, id_eq, chk]
  by_cases h1 : a < -1073741824
  · rw [V_not.2 (by omega)]; simp [h1]
  · by_cases h2 : b > 1073741824
    · rw [V_not.2 (by omega)]; simp [h1, h2]
    · rw [V_iff.2 ⟨by omega, h, by omega⟩]; simp [h1, h2]
theorem interval_made.ok : SOK Tryd.prog 37 (interval_made.sp interval_made) := by
  refine sok_of (E := ⟨[], []⟩) (L := []) ⟨specs_nil, inl_nil, mixed_ok⟩ 40 Tryd.func37 (by decide) rfl no_loops fun vs bl v bl' h => ?_
  unfold interval_made.sp at h
  split at h
  · rename_i a0 a1
    simp only [Option.some.injEq, Prod.mk.injEq, true_and] at h
    obtain ⟨rfl, rfl⟩ := h
    refine ⟨?_, by simp [okV, Nat.blt], clo_spec 8 _ (by kernel_rfl), told_blk (by kernel_rfl)⟩
    refine (interval_made.run a0 a1).trans ?_
    refine (interval_made.nat a0 a1 _).trans ?_
    kernel_rfl
  · cases h

/-! ### culet/interval.Add (10) -/
def interval_Add.K {R : Type} (f_interval_Valid : Int → Int → (Bool)) (f_interval_made : Int → Int → (Int × Int × Int)) (a0_0 : Int) (a0_1 : Int) (a1_0 : Int) (a1_1 : Int) (k : Int × Int × Int → R) : R :=
  let t0 := f_interval_Valid a0_0 a0_1
  bif !t0 then
    k (0, 0, 1)
  else
    let t1 := f_interval_Valid a1_0 a1_1
    bif !t1 then
      k (0, 0, 1)
    else
      let t2 := f_interval_made (IntKind.i64.wrap (a0_0 + a1_0)) (IntKind.i64.wrap (a0_1 + a1_1))
      k (t2.fst, t2.snd.fst, t2.snd.snd)
set_option maxRecDepth 100000 in
theorem interval_Add.run (f_interval_Valid : Int → Int → (Bool)) (f_interval_made : Int → Int → (Int × Int × Int)) (a0_0 : Int) (a0_1 : Int) (a1_0 : Int) (a1_1 : Int) : xfn Tryd.prog ⟨[(45, interval_Valid.sp f_interval_Valid), (37, interval_made.sp f_interval_made)], [(36, Tryd.f36)]⟩ [] 40 Tryd.f10 [.agg ⟨[.int .i64 a0_0, .int .i64 a0_1]⟩, .agg ⟨[.int .i64 a1_0, .int .i64 a1_1]⟩] [] = interval_Add.K f_interval_Valid f_interval_made a0_0 a0_1 a1_0 a1_1 (fun r => some (.tuple ⟨[.agg ⟨[.int .i64 r.1, .int .i64 r.2.1]⟩, .int .i64 r.2.2]⟩, [])) := by kernel_rfl
def interval_Add (a0_0 : Int) (a0_1 : Int) (a1_0 : Int) (a1_1 : Int) : Int × Int × Int := interval_Add.K interval_Valid interval_made a0_0 a0_1 a1_0 a1_1 id
theorem interval_Add.nat {R : Type} (f_interval_Valid : Int → Int → (Bool)) (f_interval_made : Int → Int → (Int × Int × Int)) (a0_0 : Int) (a0_1 : Int) (a1_0 : Int) (a1_1 : Int) (k : Int × Int × Int → R) : interval_Add.K f_interval_Valid f_interval_made a0_0 a0_1 a1_0 a1_1 k = k (interval_Add.K f_interval_Valid f_interval_made a0_0 a0_1 a1_0 a1_1 id) := by
  simp only [interval_Add.K, acond k, id_eq]
theorem interval_Add.eq (a b c d : Int) : interval_Add a b c d = iadd a b c d := by
  simp only [interval_Add, interval_Add.K, id_eq, interval_Valid.eq, iadd]
  cases h1 : V a b with
  | false => simp
  | true => cases h2 : V c d with
    | false => simp
    | true =>
      have := V_iff.1 h1
      have := V_iff.1 h2
      rw [w64 (by omega) (by omega), w64 (by omega) (by omega), interval_made.eq (by omega)]
      simp
theorem interval_Add.ok : SOK Tryd.prog 10 (interval_Add.sp interval_Add) := by
  refine sok_of (E := ⟨[(45, interval_Valid.sp interval_Valid), (37, interval_made.sp interval_made)], [(36, Tryd.f36)]⟩) (L := []) ⟨(specs_cons interval_Valid.ok (specs_cons interval_made.ok specs_nil)), (inl_cons ⟨Tryd.func36, by decide, rfl⟩ inl_nil), mixed_ok⟩ 40 Tryd.func10 (by decide) rfl no_loops fun vs bl v bl' h => ?_
  unfold interval_Add.sp at h
  split at h
  · rename_i a0_0 a0_1 a1_0 a1_1
    simp only [Option.some.injEq, Prod.mk.injEq, true_and] at h
    obtain ⟨rfl, rfl⟩ := h
    refine ⟨?_, by simp [okV, Nat.blt], clo_spec 8 _ (by kernel_rfl), told_blk (by kernel_rfl)⟩
    refine (interval_Add.run interval_Valid interval_made a0_0 a0_1 a1_0 a1_1).trans ?_
    refine (interval_Add.nat interval_Valid interval_made a0_0 a0_1 a1_0 a1_1 _).trans ?_
    kernel_rfl
  · cases h

/-! ### culet/interval.Sub (12) -/
def interval_Sub.K {R : Type} (f_interval_Valid : Int → Int → (Bool)) (f_interval_made : Int → Int → (Int × Int × Int)) (a0_0 : Int) (a0_1 : Int) (a1_0 : Int) (a1_1 : Int) (k : Int × Int × Int → R) : R :=
  let t0 := f_interval_Valid a0_0 a0_1
  bif !t0 then
    k (0, 0, 1)
  else
    let t1 := f_interval_Valid a1_0 a1_1
    bif !t1 then
      k (0, 0, 1)
    else
      let t2 := f_interval_made (IntKind.i64.wrap (a0_0 - a1_1)) (IntKind.i64.wrap (a0_1 - a1_0))
      k (t2.fst, t2.snd.fst, t2.snd.snd)
set_option maxRecDepth 100000 in
theorem interval_Sub.run (f_interval_Valid : Int → Int → (Bool)) (f_interval_made : Int → Int → (Int × Int × Int)) (a0_0 : Int) (a0_1 : Int) (a1_0 : Int) (a1_1 : Int) : xfn Tryd.prog ⟨[(45, interval_Valid.sp f_interval_Valid), (37, interval_made.sp f_interval_made)], [(36, Tryd.f36)]⟩ [] 40 Tryd.f12 [.agg ⟨[.int .i64 a0_0, .int .i64 a0_1]⟩, .agg ⟨[.int .i64 a1_0, .int .i64 a1_1]⟩] [] = interval_Sub.K f_interval_Valid f_interval_made a0_0 a0_1 a1_0 a1_1 (fun r => some (.tuple ⟨[.agg ⟨[.int .i64 r.1, .int .i64 r.2.1]⟩, .int .i64 r.2.2]⟩, [])) := by kernel_rfl
def interval_Sub (a0_0 : Int) (a0_1 : Int) (a1_0 : Int) (a1_1 : Int) : Int × Int × Int := interval_Sub.K interval_Valid interval_made a0_0 a0_1 a1_0 a1_1 id
theorem interval_Sub.nat {R : Type} (f_interval_Valid : Int → Int → (Bool)) (f_interval_made : Int → Int → (Int × Int × Int)) (a0_0 : Int) (a0_1 : Int) (a1_0 : Int) (a1_1 : Int) (k : Int × Int × Int → R) : interval_Sub.K f_interval_Valid f_interval_made a0_0 a0_1 a1_0 a1_1 k = k (interval_Sub.K f_interval_Valid f_interval_made a0_0 a0_1 a1_0 a1_1 id) := by
  simp only [interval_Sub.K, acond k, id_eq]
theorem interval_Sub.eq (a b c d : Int) : interval_Sub a b c d = isub a b c d := by
  simp only [interval_Sub, interval_Sub.K, id_eq, interval_Valid.eq, isub]
  cases h1 : V a b with
  | false => simp
  | true => cases h2 : V c d with
    | false => simp
    | true =>
      have := V_iff.1 h1
      have := V_iff.1 h2
      rw [w64 (by omega) (by omega), w64 (by omega) (by omega), interval_made.eq (by omega)]
      simp
theorem interval_Sub.ok : SOK Tryd.prog 12 (interval_Sub.sp interval_Sub) := by
  refine sok_of (E := ⟨[(45, interval_Valid.sp interval_Valid), (37, interval_made.sp interval_made)], [(36, Tryd.f36)]⟩) (L := []) ⟨(specs_cons interval_Valid.ok (specs_cons interval_made.ok specs_nil)), (inl_cons ⟨Tryd.func36, by decide, rfl⟩ inl_nil), mixed_ok⟩ 40 Tryd.func12 (by decide) rfl no_loops fun vs bl v bl' h => ?_
  unfold interval_Sub.sp at h
  split at h
  · rename_i a0_0 a0_1 a1_0 a1_1
    simp only [Option.some.injEq, Prod.mk.injEq, true_and] at h
    obtain ⟨rfl, rfl⟩ := h
    refine ⟨?_, by simp [okV, Nat.blt], clo_spec 8 _ (by kernel_rfl), told_blk (by kernel_rfl)⟩
    refine (interval_Sub.run interval_Valid interval_made a0_0 a0_1 a1_0 a1_1).trans ?_
    refine (interval_Sub.nat interval_Valid interval_made a0_0 a0_1 a1_0 a1_1 _).trans ?_
    kernel_rfl
  · cases h

/-! ### culet/interval.floor (41) -/
def interval_floor.K {R : Type} (a0 : Int) (a1 : Int) (k : (Int) → Option R) : Option R :=
  bif a1 != 0 then
    bif a1 != 0 then
      bif a0.tmod a1 != 0 then
        bif decide (a0 < 0) then
          k (IntKind.i64.wrap (IntKind.i64.wrap (a0.tdiv a1) - 1))
        else
          k (IntKind.i64.wrap (a0.tdiv a1))
      else
        k (IntKind.i64.wrap (a0.tdiv a1))
    else
      none
  else
    none
set_option maxRecDepth 100000 in
theorem interval_floor.run (a0 : Int) (a1 : Int) : xfn Tryd.prog ⟨[], []⟩ [] 40 Tryd.f41 [.int .i64 a0, .int .i64 a1] [] = interval_floor.K a0 a1 (fun r => some (.int .i64 r, [])) := by kernel_rfl
def interval_floor.o (a0 : Int) (a1 : Int) : Option (Int) := interval_floor.K a0 a1 some
def interval_floor.pre (a0 : Int) (a1 : Int) : Bool := (interval_floor.o a0 a1).isSome
def interval_floor (a0 : Int) (a1 : Int) : Int := (interval_floor.o a0 a1).getD default
theorem interval_floor.nat {R : Type} (a0 : Int) (a1 : Int) (k : (Int) → Option R) : interval_floor.K a0 a1 k = (interval_floor.K a0 a1 some).bind k := by
  simp only [interval_floor.K, bcond, Option.bind_some, Option.bind_none]
theorem interval_floor.eq {a b : Int} (hb : 0 < b) (h1 : -4611686018427387904 ≤ a) (h2 : a ≤ 4611686018427387904) : interval_floor a b = a / b := by
  have hb0 : (b != 0) = true := by simp; omega
  have hq := tdiv_bnd hb h1 h2
  simp only [interval_floor, interval_floor.o, interval_floor.K, hb0, cond_true]
  have hd : a.tdiv b = a / b + if 0 ≤ a ∨ b ∣ a then 0 else b.sign := Int.tdiv_eq_ediv
  rw [Int.sign_eq_one_of_pos hb] at hd
  by_cases hm : a.tmod b = 0
  · have hv : b ∣ a := Int.dvd_of_tmod_eq_zero hm
    simp only [hv, or_true, if_true, Int.add_zero] at hd
    simp only [hm, bne_self_eq_false, cond_false, Option.getD_some, hd]
    exact w64 (by omega) (by omega)
  · have hv : ¬ b ∣ a := fun h => hm (Int.tmod_eq_zero_of_dvd h)
    have hm' : (a.tmod b != 0) = true := by simp [hm]
    simp only [hm', cond_true]
    by_cases ha : a < 0
    · simp only [hv, or_false, show ¬ 0 ≤ a from by omega, if_false] at hd
      simp only [ha, decide_true, cond_true, Option.getD_some, hd]
      rw [w64 (n := a / b + 1) (by omega) (by omega), Int.add_sub_cancel, w64 (by omega) (by omega)]
    · simp only [show 0 ≤ a from by omega, true_or, if_true, Int.add_zero] at hd
      simp only [ha, decide_false, cond_false, Option.getD_some, hd]
      exact w64 (by omega) (by omega)
theorem interval_floor.ok : SOK Tryd.prog 41 (interval_floor.sp interval_floor) := by
  refine sok_of (E := ⟨[], []⟩) (L := []) ⟨specs_nil, inl_nil, mixed_ok⟩ 40 Tryd.func41 (by decide) rfl no_loops fun vs bl v bl' h => ?_
  unfold interval_floor.sp at h
  split at h
  · rename_i a0 a1
    simp only [Option.some.injEq, Prod.mk.injEq] at h
    obtain ⟨hp, rfl, rfl⟩ := h
    have hr := interval_floor.run a0 a1
    rw [interval_floor.nat] at hr
    obtain ⟨r, h2⟩ := Option.isSome_iff_exists.1 (by simp [interval_floor.o, interval_floor.K, isSome_cond, bool_cond_true, hp] : (interval_floor.o a0 a1).isSome = true)
    have h3 : interval_floor a0 a1 = r := by unfold interval_floor; rw [h2]; rfl
    have h4 : interval_floor.K a0 a1 some = some r := h2
    rw [h4, Option.bind_some] at hr
    rw [h3]
    exact ⟨hr, by simp [okV, Nat.blt], clo_spec 8 _ (by kernel_rfl), told_blk (by kernel_rfl)⟩
  · cases h

/-! ### culet/interval.ceil (42) -/
def interval_ceil.K {R : Type} (f_interval_floor : Int → Int → (Int)) (a0 : Int) (a1 : Int) (k : (Int) → Option R) : Option R :=
  bif a1 != 0 then
    let t0 := f_interval_floor (IntKind.i64.wrap (0 - a0)) a1
    k (IntKind.i64.wrap (0 - t0))
  else
    none
set_option maxRecDepth 100000 in
theorem interval_ceil.run (f_interval_floor : Int → Int → (Int)) (a0 : Int) (a1 : Int) : xfn Tryd.prog ⟨[(41, interval_floor.sp f_interval_floor)], []⟩ [] 40 Tryd.f42 [.int .i64 a0, .int .i64 a1] [] = interval_ceil.K f_interval_floor a0 a1 (fun r => some (.int .i64 r, [])) := by kernel_rfl
def interval_ceil.o (a0 : Int) (a1 : Int) : Option (Int) := interval_ceil.K interval_floor a0 a1 some
def interval_ceil.pre (a0 : Int) (a1 : Int) : Bool := (interval_ceil.o a0 a1).isSome
def interval_ceil (a0 : Int) (a1 : Int) : Int := (interval_ceil.o a0 a1).getD default
theorem interval_ceil.nat {R : Type} (f_interval_floor : Int → Int → (Int)) (a0 : Int) (a1 : Int) (k : (Int) → Option R) : interval_ceil.K f_interval_floor a0 a1 k = (interval_ceil.K f_interval_floor a0 a1 some).bind k := by
  simp only [interval_ceil.K, bcond, Option.bind_some, Option.bind_none]
theorem interval_ceil.eq {a b : Int} (hb : 0 < b) (h1 : -4611686018427387904 ≤ a) (h2 : a ≤ 4611686018427387904) : interval_ceil a b = cl a b := by
  have hb0 : (b != 0) = true := by simp; omega
  have hq := tdiv_bnd (a := -a) hb (by omega) (by omega)
  simp only [interval_ceil, interval_ceil.o, interval_ceil.K, hb0, cond_true, Option.getD_some, Int.zero_sub]
  rw [w64 (n := -a) (by omega) (by omega), interval_floor.eq hb (by omega) (by omega), w64 (by omega) (by omega)]
  rfl
theorem interval_ceil.ok : SOK Tryd.prog 42 (interval_ceil.sp interval_ceil) := by
  refine sok_of (E := ⟨[(41, interval_floor.sp interval_floor)], []⟩) (L := []) ⟨(specs_cons interval_floor.ok specs_nil), inl_nil, mixed_ok⟩ 40 Tryd.func42 (by decide) rfl no_loops fun vs bl v bl' h => ?_
  unfold interval_ceil.sp at h
  split at h
  · rename_i a0 a1
    simp only [Option.some.injEq, Prod.mk.injEq] at h
    obtain ⟨hp, rfl, rfl⟩ := h
    have hr := interval_ceil.run interval_floor a0 a1
    rw [interval_ceil.nat] at hr
    obtain ⟨r, h2⟩ := Option.isSome_iff_exists.1 (by simp [interval_ceil.o, interval_ceil.K, isSome_cond, bool_cond_true, hp] : (interval_ceil.o a0 a1).isSome = true)
    have h3 : interval_ceil a0 a1 = r := by unfold interval_ceil; rw [h2]; rfl
    have h4 : interval_ceil.K interval_floor a0 a1 some = some r := h2
    rw [h4, Option.bind_some] at hr
    rw [h3]
    exact ⟨hr, by simp [okV, Nat.blt], clo_spec 8 _ (by kernel_rfl), told_blk (by kernel_rfl)⟩
  · cases h

/-! ### culet/interval.Mul (14) -/
def interval_Mul.K {R : Type} (f_interval_Valid : Int → Int → (Bool)) (f_interval_made : Int → Int → (Int × Int × Int)) (f_interval_floor : Int → Int → (Int)) (f_interval_ceil : Int → Int → (Int)) (a0_0 : Int) (a0_1 : Int) (a1_0 : Int) (a1_1 : Int) (k : Int × Int × Int → R) : R :=
  let t0 := f_interval_Valid a0_0 a0_1
  bif !t0 then
    k (0, 0, 1)
  else
    let t1 := f_interval_Valid a1_0 a1_1
    bif !t1 then
      k (0, 0, 1)
    else
      let t2 := f_interval_floor (mn (mn (mn (mn (IntKind.i64.wrap (a0_0 * a1_0)) (IntKind.i64.wrap (a0_0 * a1_0))) (IntKind.i64.wrap (a0_0 * a1_1))) (IntKind.i64.wrap (a0_1 * a1_0))) (IntKind.i64.wrap (a0_1 * a1_1))) 16777216
      let t3 := f_interval_ceil (mx (mx (mx (mx (IntKind.i64.wrap (a0_0 * a1_0)) (IntKind.i64.wrap (a0_0 * a1_0))) (IntKind.i64.wrap (a0_0 * a1_1))) (IntKind.i64.wrap (a0_1 * a1_0))) (IntKind.i64.wrap (a0_1 * a1_1))) 16777216
      let t4 := f_interval_made t2 t3
      k (t4.fst, t4.snd.fst, t4.snd.snd)
set_option maxRecDepth 100000 in
theorem interval_Mul.run (f_interval_Valid : Int → Int → (Bool)) (f_interval_made : Int → Int → (Int × Int × Int)) (f_interval_floor : Int → Int → (Int)) (f_interval_ceil : Int → Int → (Int)) (a0_0 : Int) (a0_1 : Int) (a1_0 : Int) (a1_1 : Int) : xfn Tryd.prog ⟨[(45, interval_Valid.sp f_interval_Valid), (37, interval_made.sp f_interval_made), (40, interval_extremes.sp), (41, interval_floor.sp f_interval_floor), (42, interval_ceil.sp f_interval_ceil)], [(36, Tryd.f36)]⟩ [] 40 Tryd.f14 [.agg ⟨[.int .i64 a0_0, .int .i64 a0_1]⟩, .agg ⟨[.int .i64 a1_0, .int .i64 a1_1]⟩] [] = interval_Mul.K f_interval_Valid f_interval_made f_interval_floor f_interval_ceil a0_0 a0_1 a1_0 a1_1 (fun r => some (.tuple ⟨[.agg ⟨[.int .i64 r.1, .int .i64 r.2.1]⟩, .int .i64 r.2.2]⟩, [])) := by kernel_rfl
def interval_Mul (a0_0 : Int) (a0_1 : Int) (a1_0 : Int) (a1_1 : Int) : Int × Int × Int := interval_Mul.K interval_Valid interval_made interval_floor interval_ceil a0_0 a0_1 a1_0 a1_1 id
theorem interval_Mul.nat {R : Type} (f_interval_Valid : Int → Int → (Bool)) (f_interval_made : Int → Int → (Int × Int × Int)) (f_interval_floor : Int → Int → (Int)) (f_interval_ceil : Int → Int → (Int)) (a0_0 : Int) (a0_1 : Int) (a1_0 : Int) (a1_1 : Int) (k : Int × Int × Int → R) : interval_Mul.K f_interval_Valid f_interval_made f_interval_floor f_interval_ceil a0_0 a0_1 a1_0 a1_1 k = k (interval_Mul.K f_interval_Valid f_interval_made f_interval_floor f_interval_ceil a0_0 a0_1 a1_0 a1_1 id) := by
  simp only [interval_Mul.K, acond k, id_eq]
theorem interval_Mul.eq (a b c d : Int) : interval_Mul a b c d = imul a b c d := by
  simp only [interval_Mul, interval_Mul.K, id_eq, interval_Valid.eq, imul]
  cases h1 : V a b with
  | false => simp
  | true => cases h2 : V c d with
    | false => simp
    | true =>
      have := V_iff.1 h1
      have := V_iff.1 h2
      have e1 := mul_bnd30 (x := a) (y := c) (by omega) (by omega) (by omega) (by omega)
      have e2 := mul_bnd30 (x := a) (y := d) (by omega) (by omega) (by omega) (by omega)
      have e3 := mul_bnd30 (x := b) (y := c) (by omega) (by omega) (by omega) (by omega)
      have e4 := mul_bnd30 (x := b) (y := d) (by omega) (by omega) (by omega) (by omega)
      have w1 : IntKind.i64.wrap (a * c) = a * c := w64 (by omega) (by omega)
      have w2 : IntKind.i64.wrap (a * d) = a * d := w64 (by omega) (by omega)
      have w3 : IntKind.i64.wrap (b * c) = b * c := w64 (by omega) (by omega)
      have w4 : IntKind.i64.wrap (b * d) = b * d := w64 (by omega) (by omega)
      have m1 : min (min (min (min (a * c) (a * c)) (a * d)) (b * c)) (b * d) = mn4 (a * c) (a * d) (b * c) (b * d) := by simp only [mn4]; omega
      have m2 : max (max (max (max (a * c) (a * c)) (a * d)) (b * c)) (b * d) = mx4 (a * c) (a * d) (b * c) (b * d) := by simp only [mx4]; omega
      simp only [w1, w2, w3, w4, mn_eq, mx_eq, Bool.not_true, cond_false, Bool.and_self, cond_true, m1, m2]
      have hmn : mn4 (a * c) (a * d) (b * c) (b * d) ≤ mx4 (a * c) (a * d) (b * c) (b * d) := by simp only [mn4, mx4]; omega
      rw [interval_floor.eq (by omega) (by simp only [mn4]; omega) (by simp only [mn4]; omega), interval_ceil.eq (by omega) (by simp only [mx4]; omega) (by simp only [mx4]; omega), interval_made.eq (fl_le_cl' (by omega) hmn)]
theorem interval_Mul.ok : SOK Tryd.prog 14 (interval_Mul.sp interval_Mul) := by
  refine sok_of (E := ⟨[(45, interval_Valid.sp interval_Valid), (37, interval_made.sp interval_made), (40, interval_extremes.sp), (41, interval_floor.sp interval_floor), (42, interval_ceil.sp interval_ceil)], [(36, Tryd.f36)]⟩) (L := []) ⟨(specs_cons interval_Valid.ok (specs_cons interval_made.ok (specs_cons interval_extremes.ok (specs_cons interval_floor.ok (specs_cons interval_ceil.ok specs_nil))))), (inl_cons ⟨Tryd.func36, by decide, rfl⟩ inl_nil), mixed_ok⟩ 40 Tryd.func14 (by decide) rfl no_loops fun vs bl v bl' h => ?_
  unfold interval_Mul.sp at h
  split at h
  · rename_i a0_0 a0_1 a1_0 a1_1
    simp only [Option.some.injEq, Prod.mk.injEq, true_and] at h
    obtain ⟨rfl, rfl⟩ := h
    refine ⟨?_, by simp [okV, Nat.blt], clo_spec 8 _ (by kernel_rfl), told_blk (by kernel_rfl)⟩
    refine (interval_Mul.run interval_Valid interval_made interval_floor interval_ceil a0_0 a0_1 a1_0 a1_1).trans ?_
    refine (interval_Mul.nat interval_Valid interval_made interval_floor interval_ceil a0_0 a0_1 a1_0 a1_1 _).trans ?_
    kernel_rfl
  · cases h

/-! ### culet/interval.Div (16) -/
def interval_Div.K {R : Type} (f_interval_Valid : Int → Int → (Bool)) (f_interval_made : Int → Int → (Int × Int × Int)) (f_interval_floor : Int → Int → (Int)) (f_interval_ceil : Int → Int → (Int)) (a0_0 : Int) (a0_1 : Int) (a1_0 : Int) (a1_1 : Int) (k : Int × Int × Int → Option R) : Option R :=
  let t0 := f_interval_Valid a0_0 a0_1
  bif !t0 then
    k (0, 0, 1)
  else
    let t1 := f_interval_Valid a1_0 a1_1
    bif !t1 then
      k (0, 0, 1)
    else
      bif decide (a1_0 ≤ 0) then
        bif decide (a1_1 ≥ 0) then
          k (0, 0, 10)
        else
          bif decide (a1_1 < 0) then
            bif IntKind.i64.wrap (0 - a1_1) != 0 then
              bif IntKind.i64.wrap (0 - a1_0) != 0 then
                bif IntKind.i64.wrap (0 - a1_1) != 0 then
                  bif IntKind.i64.wrap (0 - a1_0) != 0 then
                    let t2 := f_interval_floor (IntKind.i64.wrap (IntKind.i64.wrap (0 - a0_1) * 16777216)) (IntKind.i64.wrap (0 - a1_1))
                    let t3 := f_interval_floor (IntKind.i64.wrap (IntKind.i64.wrap (0 - a0_1) * 16777216)) (IntKind.i64.wrap (0 - a1_0))
                    let t4 := f_interval_ceil (IntKind.i64.wrap (IntKind.i64.wrap (0 - a0_0) * 16777216)) (IntKind.i64.wrap (0 - a1_1))
                    let t5 := f_interval_ceil (IntKind.i64.wrap (IntKind.i64.wrap (0 - a0_0) * 16777216)) (IntKind.i64.wrap (0 - a1_0))
                    let t6 := f_interval_made (mn (mn t2 t2) t3) (mx (mx t4 t4) t5)
                    k (t6.fst, t6.snd.fst, t6.snd.snd)
                  else
                    none
                else
                  none
              else
                none
            else
              none
          else
            bif a1_0 != 0 then
              bif a1_1 != 0 then
                bif a1_0 != 0 then
                  bif a1_1 != 0 then
                    let t7 := f_interval_floor (IntKind.i64.wrap (a0_0 * 16777216)) a1_0
                    let t8 := f_interval_floor (IntKind.i64.wrap (a0_0 * 16777216)) a1_1
                    let t9 := f_interval_ceil (IntKind.i64.wrap (a0_1 * 16777216)) a1_0
                    let t10 := f_interval_ceil (IntKind.i64.wrap (a0_1 * 16777216)) a1_1
                    let t11 := f_interval_made (mn (mn t7 t7) t8) (mx (mx t9 t9) t10)
                    k (t11.fst, t11.snd.fst, t11.snd.snd)
                  else
                    none
                else
                  none
              else
                none
            else
              none
      else
        bif decide (a1_1 < 0) then
          bif IntKind.i64.wrap (0 - a1_1) != 0 then
            bif IntKind.i64.wrap (0 - a1_0) != 0 then
              bif IntKind.i64.wrap (0 - a1_1) != 0 then
                bif IntKind.i64.wrap (0 - a1_0) != 0 then
                  let t12 := f_interval_floor (IntKind.i64.wrap (IntKind.i64.wrap (0 - a0_1) * 16777216)) (IntKind.i64.wrap (0 - a1_1))
                  let t13 := f_interval_floor (IntKind.i64.wrap (IntKind.i64.wrap (0 - a0_1) * 16777216)) (IntKind.i64.wrap (0 - a1_0))
                  let t14 := f_interval_ceil (IntKind.i64.wrap (IntKind.i64.wrap (0 - a0_0) * 16777216)) (IntKind.i64.wrap (0 - a1_1))
                  let t15 := f_interval_ceil (IntKind.i64.wrap (IntKind.i64.wrap (0 - a0_0) * 16777216)) (IntKind.i64.wrap (0 - a1_0))
                  let t16 := f_interval_made (mn (mn t12 t12) t13) (mx (mx t14 t14) t15)
                  k (t16.fst, t16.snd.fst, t16.snd.snd)
                else
                  none
              else
                none
            else
              none
          else
            none
        else
          bif a1_0 != 0 then
            bif a1_1 != 0 then
              bif a1_0 != 0 then
                bif a1_1 != 0 then
                  let t17 := f_interval_floor (IntKind.i64.wrap (a0_0 * 16777216)) a1_0
                  let t18 := f_interval_floor (IntKind.i64.wrap (a0_0 * 16777216)) a1_1
                  let t19 := f_interval_ceil (IntKind.i64.wrap (a0_1 * 16777216)) a1_0
                  let t20 := f_interval_ceil (IntKind.i64.wrap (a0_1 * 16777216)) a1_1
                  let t21 := f_interval_made (mn (mn t17 t17) t18) (mx (mx t19 t19) t20)
                  k (t21.fst, t21.snd.fst, t21.snd.snd)
                else
                  none
              else
                none
            else
              none
          else
            none
set_option maxRecDepth 100000 in
theorem interval_Div.run (f_interval_Valid : Int → Int → (Bool)) (f_interval_made : Int → Int → (Int × Int × Int)) (f_interval_floor : Int → Int → (Int)) (f_interval_ceil : Int → Int → (Int)) (a0_0 : Int) (a0_1 : Int) (a1_0 : Int) (a1_1 : Int) : xfn Tryd.prog ⟨[(45, interval_Valid.sp f_interval_Valid), (37, interval_made.sp f_interval_made), (40, interval_extremes.sp), (41, interval_floor.sp f_interval_floor), (42, interval_ceil.sp f_interval_ceil)], [(36, Tryd.f36)]⟩ [] 40 Tryd.f16 [.agg ⟨[.int .i64 a0_0, .int .i64 a0_1]⟩, .agg ⟨[.int .i64 a1_0, .int .i64 a1_1]⟩] [] = interval_Div.K f_interval_Valid f_interval_made f_interval_floor f_interval_ceil a0_0 a0_1 a1_0 a1_1 (fun r => some (.tuple ⟨[.agg ⟨[.int .i64 r.1, .int .i64 r.2.1]⟩, .int .i64 r.2.2]⟩, [])) := by kernel_rfl
def interval_Div.o (a0_0 : Int) (a0_1 : Int) (a1_0 : Int) (a1_1 : Int) : Option (Int × Int × Int) := interval_Div.K interval_Valid interval_made interval_floor interval_ceil a0_0 a0_1 a1_0 a1_1 some
def interval_Div.pre (a0_0 : Int) (a0_1 : Int) (a1_0 : Int) (a1_1 : Int) : Bool := (interval_Div.o a0_0 a0_1 a1_0 a1_1).isSome
def interval_Div (a0_0 : Int) (a0_1 : Int) (a1_0 : Int) (a1_1 : Int) : Int × Int × Int := (interval_Div.o a0_0 a0_1 a1_0 a1_1).getD default
theorem interval_Div.nat {R : Type} (f_interval_Valid : Int → Int → (Bool)) (f_interval_made : Int → Int → (Int × Int × Int)) (f_interval_floor : Int → Int → (Int)) (f_interval_ceil : Int → Int → (Int)) (a0_0 : Int) (a0_1 : Int) (a1_0 : Int) (a1_1 : Int) (k : Int × Int × Int → Option R) : interval_Div.K f_interval_Valid f_interval_made f_interval_floor f_interval_ceil a0_0 a0_1 a1_0 a1_1 k = (interval_Div.K f_interval_Valid f_interval_made f_interval_floor f_interval_ceil a0_0 a0_1 a1_0 a1_1 some).bind k := by
  simp only [interval_Div.K, bcond, Option.bind_some, Option.bind_none]
theorem interval_Div.o_eq (a b c d : Int) : interval_Div.o a b c d = some (idiv a b c d) := by
  simp only [interval_Div.o, interval_Div.K, interval_Valid.eq, idiv]
  cases h1 : V a b with
  | false => simp
  | true => cases h2 : V c d with
    | false => simp
    | true =>
      have := V_iff.1 h1
      have := V_iff.1 h2
      have w1 : IntKind.i64.wrap (0 - a) = -a := by rw [Int.zero_sub]; exact w64 (by omega) (by omega)
      have w2 : IntKind.i64.wrap (0 - b) = -b := by rw [Int.zero_sub]; exact w64 (by omega) (by omega)
      have w3 : IntKind.i64.wrap (0 - c) = -c := by rw [Int.zero_sub]; exact w64 (by omega) (by omega)
      have w4 : IntKind.i64.wrap (0 - d) = -d := by rw [Int.zero_sub]; exact w64 (by omega) (by omega)
      have w5 : IntKind.i64.wrap (a * 16777216) = a * 16777216 := w64 (by omega) (by omega)
      have w6 : IntKind.i64.wrap (b * 16777216) = b * 16777216 := w64 (by omega) (by omega)
      have w7 : IntKind.i64.wrap (-a * 16777216) = -a * 16777216 := w64 (by omega) (by omega)
      have w8 : IntKind.i64.wrap (-b * 16777216) = -b * 16777216 := w64 (by omega) (by omega)
      simp only [w1, w2, w3, w4, w5, w6, w7, w8, mn_eq, mx_eq, Bool.not_true, cond_false, cond_true, Bool.and_self]
      have pos : ∀ x y u v : Int, -1073741824 ≤ x → x ≤ y → y ≤ 1073741824 → 0 < u → u ≤ v → v ≤ 1073741824 → interval_made (min (min (interval_floor (x * 16777216) u) (interval_floor (x * 16777216) u)) (interval_floor (x * 16777216) v)) (max (max (interval_ceil (y * 16777216) u) (interval_ceil (y * 16777216) u)) (interval_ceil (y * 16777216) v)) = pdiv x y u v := fun x y u v hx hxy hy hu huv hv => by
        have hv0 : 0 < v := by omega
        have f1 : interval_floor (x * 16777216) u = x * 16777216 / u := interval_floor.eq hu (by omega) (by omega)
        have f2 : interval_floor (x * 16777216) v = x * 16777216 / v := interval_floor.eq hv0 (by omega) (by omega)
        have f3 : interval_ceil (y * 16777216) u = cl (y * 16777216) u := interval_ceil.eq hu (by omega) (by omega)
        have f4 : interval_ceil (y * 16777216) v = cl (y * 16777216) v := interval_ceil.eq hv0 (by omega) (by omega)
        rw [f1, f2, f3, f4, Int.min_self, Int.max_self]
        have := fl_le_cl' (x := x * 16777216) (y := y * 16777216) hu (by omega)
        exact interval_made.eq (by omega)
      by_cases h3 : c ≤ 0
      · by_cases h4 : d ≥ 0
        · simp [h3, h4]
        · have h5 : d < 0 := by omega
          have n1 : ((-d) != 0) = true := by simp; omega
          have n2 : ((-c) != 0) = true := by simp; omega
          have n3 : ¬ (c ≤ 0 ∧ 0 ≤ d) := by omega
          rw [if_neg n3, if_pos h5]
          simp only [h3, h4, h5, n1, n2, decide_true, decide_false, cond_true, cond_false, pos (-b) (-a) (-d) (-c) (by omega) (by omega) (by omega) (by omega) (by omega) (by omega)]
      · have h5 : ¬ d < 0 := by omega
        have n1 : (c != 0) = true := by simp; omega
        have n2 : (d != 0) = true := by simp; omega
        have n3 : ¬ (c ≤ 0 ∧ 0 ≤ d) := by omega
        rw [if_neg n3, if_neg h5]
        simp only [h3, h5, n1, n2, decide_true, decide_false, cond_true, cond_false, pos a b c d (by omega) (by omega) (by omega) (by omega) (by omega) (by omega)]
theorem interval_Div.total (a b c d : Int) : (interval_Div.o a b c d).isSome = true := by rw [interval_Div.o_eq]; rfl
theorem interval_Div.eq (a b c d : Int) : interval_Div a b c d = idiv a b c d := by rw [interval_Div, interval_Div.o_eq]; rfl
theorem interval_Div.ok : SOK Tryd.prog 16 (interval_Div.sp interval_Div) := by
  refine sok_of (E := ⟨[(45, interval_Valid.sp interval_Valid), (37, interval_made.sp interval_made), (40, interval_extremes.sp), (41, interval_floor.sp interval_floor), (42, interval_ceil.sp interval_ceil)], [(36, Tryd.f36)]⟩) (L := []) ⟨(specs_cons interval_Valid.ok (specs_cons interval_made.ok (specs_cons interval_extremes.ok (specs_cons interval_floor.ok (specs_cons interval_ceil.ok specs_nil))))), (inl_cons ⟨Tryd.func36, by decide, rfl⟩ inl_nil), mixed_ok⟩ 40 Tryd.func16 (by decide) rfl no_loops fun vs bl v bl' h => ?_
  unfold interval_Div.sp at h
  split at h
  · rename_i a0_0 a0_1 a1_0 a1_1
    simp only [Option.some.injEq, Prod.mk.injEq] at h
    obtain ⟨hp, rfl, rfl⟩ := h
    have hr := interval_Div.run interval_Valid interval_made interval_floor interval_ceil a0_0 a0_1 a1_0 a1_1
    rw [interval_Div.nat] at hr
    obtain ⟨r, h2⟩ := Option.isSome_iff_exists.1 (interval_Div.total a0_0 a0_1 a1_0 a1_1 : (interval_Div.o a0_0 a0_1 a1_0 a1_1).isSome = true)
    have h3 : interval_Div a0_0 a0_1 a1_0 a1_1 = r := by unfold interval_Div; rw [h2]; rfl
    have h4 : interval_Div.K interval_Valid interval_made interval_floor interval_ceil a0_0 a0_1 a1_0 a1_1 some = some r := h2
    rw [h4, Option.bind_some] at hr
    rw [h3]
    exact ⟨hr, by simp [okV, Nat.blt], clo_spec 8 _ (by kernel_rfl), told_blk (by kernel_rfl)⟩
  · cases h

/-! ### culet/culetref27.Valid (20) -/
def culetref27_Valid.K {R : Type} (a0_0 : Int) (a0_1 : Int) (k : (Bool) → R) : R :=
  bif decide (-1073741824 ≤ a0_0) then
    bif decide (a0_0 ≤ a0_1) then
      k (decide (a0_1 ≤ 1073741824))
    else
      k (false)
  else
    k (false)
set_option maxRecDepth 100000 in
theorem culetref27_Valid.run (a0_0 : Int) (a0_1 : Int) : xfn Tryd.prog ⟨[], []⟩ [] 40 Tryd.f20 [.agg ⟨[.int .i64 a0_0, .int .i64 a0_1]⟩] [] = culetref27_Valid.K a0_0 a0_1 (fun r => some (.bool r, [])) := by kernel_rfl
def culetref27_Valid (a0_0 : Int) (a0_1 : Int) : Bool := culetref27_Valid.K a0_0 a0_1 id
theorem culetref27_Valid.nat {R : Type} (a0_0 : Int) (a0_1 : Int) (k : (Bool) → R) : culetref27_Valid.K a0_0 a0_1 k = k (culetref27_Valid.K a0_0 a0_1 id) := by
  simp only [culetref27_Valid.K, acond k, id_eq]
theorem culetref27_Valid.eq (a b : Int) : culetref27_Valid a b = V a b := by
  simp only [culetref27_Valid, culetref27_Valid.K, id_eq, V]
  by_cases h1 : -1073741824 ≤ a <;> by_cases h2 : a ≤ b <;> by_cases h3 : b ≤ 1073741824 <;> simp [h1, h2, h3]
theorem culetref27_Valid.ok : SOK Tryd.prog 20 (culetref27_Valid.sp culetref27_Valid) := by
  refine sok_of (E := ⟨[], []⟩) (L := []) ⟨specs_nil, inl_nil, mixed_ok⟩ 40 Tryd.func20 (by decide) rfl no_loops fun vs bl v bl' h => ?_
  unfold culetref27_Valid.sp at h
  split at h
  · rename_i a0_0 a0_1
    simp only [Option.some.injEq, Prod.mk.injEq, true_and] at h
    obtain ⟨rfl, rfl⟩ := h
    refine ⟨?_, by simp [okV, Nat.blt], clo_spec 8 _ (by kernel_rfl), told_blk (by kernel_rfl)⟩
    refine (culetref27_Valid.run a0_0 a0_1).trans ?_
    refine (culetref27_Valid.nat a0_0 a0_1 _).trans ?_
    kernel_rfl
  · cases h

/-! ### culet/interval.Square (26) -/
def interval_Square.K {R : Type} (f_interval_made : Int → Int → (Int × Int × Int)) (f_interval_floor : Int → Int → (Int)) (f_interval_ceil : Int → Int → (Int)) (f_interval_Valid : Int → Int → (Bool)) (a0_0 : Int) (a0_1 : Int) (k : Int × Int × Int → R) : R :=
  let t0 := f_interval_Valid a0_0 a0_1
  bif !t0 then
    k (0, 0, 1)
  else
    bif decide (a0_0 ≤ 0) then
      bif decide (a0_1 ≥ 0) then
        let t1 := f_interval_floor 0 16777216
        let t2 := f_interval_ceil (mx (mx (IntKind.i64.wrap (a0_0 * a0_0)) (IntKind.i64.wrap (a0_0 * a0_0))) (IntKind.i64.wrap (a0_1 * a0_1))) 16777216
        let t3 := f_interval_made t1 t2
        k (t3.fst, t3.snd.fst, t3.snd.snd)
      else
        let t4 := f_interval_floor (mn (mn (IntKind.i64.wrap (a0_0 * a0_0)) (IntKind.i64.wrap (a0_0 * a0_0))) (IntKind.i64.wrap (a0_1 * a0_1))) 16777216
        let t5 := f_interval_ceil (mx (mx (IntKind.i64.wrap (a0_0 * a0_0)) (IntKind.i64.wrap (a0_0 * a0_0))) (IntKind.i64.wrap (a0_1 * a0_1))) 16777216
        let t6 := f_interval_made t4 t5
        k (t6.fst, t6.snd.fst, t6.snd.snd)
    else
      let t7 := f_interval_floor (mn (mn (IntKind.i64.wrap (a0_0 * a0_0)) (IntKind.i64.wrap (a0_0 * a0_0))) (IntKind.i64.wrap (a0_1 * a0_1))) 16777216
      let t8 := f_interval_ceil (mx (mx (IntKind.i64.wrap (a0_0 * a0_0)) (IntKind.i64.wrap (a0_0 * a0_0))) (IntKind.i64.wrap (a0_1 * a0_1))) 16777216
      let t9 := f_interval_made t7 t8
      k (t9.fst, t9.snd.fst, t9.snd.snd)
set_option maxRecDepth 100000 in
theorem interval_Square.run (f_interval_made : Int → Int → (Int × Int × Int)) (f_interval_floor : Int → Int → (Int)) (f_interval_ceil : Int → Int → (Int)) (f_interval_Valid : Int → Int → (Bool)) (a0_0 : Int) (a0_1 : Int) : xfn Tryd.prog ⟨[(37, interval_made.sp f_interval_made), (40, interval_extremes.sp), (41, interval_floor.sp f_interval_floor), (42, interval_ceil.sp f_interval_ceil), (45, interval_Valid.sp f_interval_Valid)], []⟩ [] 40 Tryd.f26 [.agg ⟨[.int .i64 a0_0, .int .i64 a0_1]⟩] [] = interval_Square.K f_interval_made f_interval_floor f_interval_ceil f_interval_Valid a0_0 a0_1 (fun r => some (.tuple ⟨[.agg ⟨[.int .i64 r.1, .int .i64 r.2.1]⟩, .int .i64 r.2.2]⟩, [])) := by kernel_rfl
def interval_Square (a0_0 : Int) (a0_1 : Int) : Int × Int × Int := interval_Square.K interval_made interval_floor interval_ceil interval_Valid a0_0 a0_1 id
theorem interval_Square.nat {R : Type} (f_interval_made : Int → Int → (Int × Int × Int)) (f_interval_floor : Int → Int → (Int)) (f_interval_ceil : Int → Int → (Int)) (f_interval_Valid : Int → Int → (Bool)) (a0_0 : Int) (a0_1 : Int) (k : Int × Int × Int → R) : interval_Square.K f_interval_made f_interval_floor f_interval_ceil f_interval_Valid a0_0 a0_1 k = k (interval_Square.K f_interval_made f_interval_floor f_interval_ceil f_interval_Valid a0_0 a0_1 id) := by
  simp only [interval_Square.K, acond k, id_eq]
theorem interval_Square.eq (a b : Int) : interval_Square a b = isq a b := by
  simp only [interval_Square, interval_Square.K, id_eq, interval_Valid.eq, isq]
  cases h1 : V a b with
  | false => simp
  | true =>
    have := V_iff.1 h1
    have e1 := mul_bnd30 (x := a) (y := a) (by omega) (by omega) (by omega) (by omega)
    have e4 := mul_bnd30 (x := b) (y := b) (by omega) (by omega) (by omega) (by omega)
    have s1 := sq_nonneg a
    have s2 := sq_nonneg b
    have w1 : IntKind.i64.wrap (a * a) = a * a := w64 (by omega) (by omega)
    have w4 : IntKind.i64.wrap (b * b) = b * b := w64 (by omega) (by omega)
    have m1 : min (min (a * a) (a * a)) (b * b) = min (a * a) (b * b) := by omega
    have m2 : max (max (a * a) (a * a)) (b * b) = max (a * a) (b * b) := by omega
    simp only [w1, w4, mn_eq, mx_eq, Bool.not_true, cond_false, cond_true, m1, m2]
    have r1 : interval_floor (min (a * a) (b * b)) 16777216 = min (a * a) (b * b) / 16777216 := interval_floor.eq (by omega) (by omega) (by omega)
    have r2 : interval_ceil (max (a * a) (b * b)) 16777216 = cl (max (a * a) (b * b)) 16777216 := interval_ceil.eq (by omega) (by omega) (by omega)
    have r3 : interval_floor 0 16777216 = 0 / 16777216 := interval_floor.eq (by omega) (by omega) (by omega)
    have hk : (0 : Int) < 16777216 := by omega
    rw [r1, r2, r3, interval_made.eq (fl_le_cl' hk (by omega)), interval_made.eq (fl_le_cl' hk (by omega))]
    by_cases h2 : a ≤ 0 <;> by_cases h3 : b ≥ 0 <;> simp [h2, h3]
theorem interval_Square.ok : SOK Tryd.prog 26 (interval_Square.sp interval_Square) := by
  refine sok_of (E := ⟨[(37, interval_made.sp interval_made), (40, interval_extremes.sp), (41, interval_floor.sp interval_floor), (42, interval_ceil.sp interval_ceil), (45, interval_Valid.sp interval_Valid)], []⟩) (L := []) ⟨(specs_cons interval_made.ok (specs_cons interval_extremes.ok (specs_cons interval_floor.ok (specs_cons interval_ceil.ok (specs_cons interval_Valid.ok specs_nil))))), inl_nil, mixed_ok⟩ 40 Tryd.func26 (by decide) rfl no_loops fun vs bl v bl' h => ?_
  unfold interval_Square.sp at h
  split at h
  · rename_i a0_0 a0_1
    simp only [Option.some.injEq, Prod.mk.injEq, true_and] at h
    obtain ⟨rfl, rfl⟩ := h
    refine ⟨?_, by simp [okV, Nat.blt], clo_spec 8 _ (by kernel_rfl), told_blk (by kernel_rfl)⟩
    refine (interval_Square.run interval_made interval_floor interval_ceil interval_Valid a0_0 a0_1).trans ?_
    refine (interval_Square.nat interval_made interval_floor interval_ceil interval_Valid a0_0 a0_1 _).trans ?_
    kernel_rfl
  · cases h

/-! ### culet/interval.Sqrt (27) -/
def interval_Sqrt.K {R : Type} (f_interval_made : Int → Int → (Int × Int × Int)) (f_interval_Valid : Int → Int → (Bool)) (a0_0 : Int) (a0_1 : Int) (k : Int × Int × Int → R) : R :=
  let t0 := f_interval_Valid a0_0 a0_1
  bif !t0 then
    k (0, 0, 1)
  else
    bif decide (a0_0 < 0) then
      k (0, 0, 2)
    else
      bif decide (IntKind.i64.wrap (root.rt 32 (IntKind.i64.wrap (a0_1 * 16777216)) 0 * root.rt 32 (IntKind.i64.wrap (a0_1 * 16777216)) 0) < IntKind.i64.wrap (a0_1 * 16777216)) then
        let t1 := f_interval_made (root.rt 32 (IntKind.i64.wrap (a0_0 * 16777216)) 0) (IntKind.i64.wrap (root.rt 32 (IntKind.i64.wrap (a0_1 * 16777216)) 0 + 1))
        k (t1.fst, t1.snd.fst, t1.snd.snd)
      else
        let t2 := f_interval_made (root.rt 32 (IntKind.i64.wrap (a0_0 * 16777216)) 0) (root.rt 32 (IntKind.i64.wrap (a0_1 * 16777216)) 0)
        k (t2.fst, t2.snd.fst, t2.snd.snd)
set_option maxRecDepth 100000 in
theorem interval_Sqrt.run (f_interval_made : Int → Int → (Int × Int × Int)) (f_interval_Valid : Int → Int → (Bool)) (a0_0 : Int) (a0_1 : Int) : xfn Tryd.prog ⟨[(37, interval_made.sp f_interval_made), (45, interval_Valid.sp f_interval_Valid), (46, interval_root.sp)], []⟩ [] 40 Tryd.f27 [.agg ⟨[.int .i64 a0_0, .int .i64 a0_1]⟩] [] = interval_Sqrt.K f_interval_made f_interval_Valid a0_0 a0_1 (fun r => some (.tuple ⟨[.agg ⟨[.int .i64 r.1, .int .i64 r.2.1]⟩, .int .i64 r.2.2]⟩, [])) := by kernel_rfl
def interval_Sqrt (a0_0 : Int) (a0_1 : Int) : Int × Int × Int := interval_Sqrt.K interval_made interval_Valid a0_0 a0_1 id
theorem interval_Sqrt.nat {R : Type} (f_interval_made : Int → Int → (Int × Int × Int)) (f_interval_Valid : Int → Int → (Bool)) (a0_0 : Int) (a0_1 : Int) (k : Int × Int × Int → R) : interval_Sqrt.K f_interval_made f_interval_Valid a0_0 a0_1 k = k (interval_Sqrt.K f_interval_made f_interval_Valid a0_0 a0_1 id) := by
  simp only [interval_Sqrt.K, acond k, id_eq]
theorem root_rts : ∀ (k : Nat) (n r : Int), 0 ≤ n → n ≤ 18014398509481984 → 0 ≤ r → r + ((2 ^ k : Nat) : Int) ≤ 4294967296 → root.rt k n r = rts k n r
  | 0, n, r, _, _, _, _ => rfl
  | k + 1, n, r, h0, h1, h2, h3 => by
    have e : ((2 ^ (k + 1) : Nat) : Int) = ((2 ^ k : Nat) : Int) + ((2 ^ k : Nat) : Int) := by rw [Nat.pow_succ]; omega
    have e2 : (2 : Int) ^ k = ((2 ^ k : Nat) : Int) := (Int.natCast_pow 2 k).symm
    have hp : 0 < ((2 ^ k : Nat) : Int) := by have := Nat.two_pow_pos k; omega
    rw [e] at h3
    have hq := tdiv_bnd (a := n) (b := r + ((2 ^ k : Nat) : Int)) (by omega) (by omega) (by omega)
    simp only [root.rt, rts, bitOf_succ, e2]
    rw [w64 (n := r + ((2 ^ k : Nat) : Int)) (by omega) (by omega), Int.tdiv_eq_ediv_of_nonneg h0, w64 (by omega) (by omega)]
    have hi : r + ((2 ^ k : Nat) : Int) ≤ n / (r + ((2 ^ k : Nat) : Int)) ↔ (r + ((2 ^ k : Nat) : Int)) * (r + ((2 ^ k : Nat) : Int)) ≤ n := le_fl (by omega)
    by_cases hc : (r + ((2 ^ k : Nat) : Int)) * (r + ((2 ^ k : Nat) : Int)) ≤ n
    · rw [if_pos hc, if_pos (hi.2 hc)]
      exact root_rts k n _ h0 h1 (by omega) (by omega)
    · rw [if_neg hc, if_neg (fun h => hc (hi.1 h))]
      exact root_rts k n _ h0 h1 h2 (by omega)
theorem root_sqt {n : Int} (h0 : 0 ≤ n) (h : n ≤ 18014398509481984) : root.rt 32 n 0 = sqt n := root_rts 32 n 0 h0 h (by omega) (by decide)
theorem interval_Sqrt.eq (a b : Int) : interval_Sqrt a b = isr a b := by
  simp only [interval_Sqrt, interval_Sqrt.K, id_eq, interval_Valid.eq, isr]
  cases hv : V a b with
  | false => rfl
  | true =>
    have := V_iff.1 hv
    by_cases ha : a < 0
    · simp only [ha, decide_true, Bool.not_true, cond_false, cond_true, if_true]
    · have w1 : IntKind.i64.wrap (a * 16777216) = a * 16777216 := w64 (by omega) (by omega)
      have w2 : IntKind.i64.wrap (b * 16777216) = b * 16777216 := w64 (by omega) (by omega)
      have r1 := root_sqt (n := a * 16777216) (by omega) (by omega)
      have r2 := root_sqt (n := b * 16777216) (by omega) (by omega)
      have s2 := sqt_spec (n := b * 16777216) (by omega) (by omega)
      have g := isr_range (a := a) (b := b) (by omega) (by omega) (by omega)
      have g2 := (sqc_spec (n := b * 16777216) (by omega) (by omega)).2.2.2
      simp only [ha, decide_false, Bool.not_true, cond_false, cond_true, if_false, w1, w2, r1, r2]
      have g3 := sq_nonneg (sqt (b * 16777216))
      rw [w64 (n := sqt (b * 16777216) * sqt (b * 16777216)) (by omega) (by omega)]
      by_cases hc : sqt (b * 16777216) * sqt (b * 16777216) < b * 16777216
      · have e : sqc (b * 16777216) = sqt (b * 16777216) + 1 := by rw [sqc, if_pos hc]
        simp only [hc, decide_true, cond_true]
        rw [w64 (by omega) (by omega), ← e, interval_made.eq (by omega), chk_of (by omega) (by omega) (by omega)]
      · have e : sqc (b * 16777216) = sqt (b * 16777216) := by rw [sqc, if_neg hc]
        simp only [hc, decide_false, cond_false]
        rw [← e, interval_made.eq (by omega), chk_of (by omega) (by omega) (by omega)]
theorem interval_Sqrt.ok : SOK Tryd.prog 27 (interval_Sqrt.sp interval_Sqrt) := by
  refine sok_of (E := ⟨[(37, interval_made.sp interval_made), (45, interval_Valid.sp interval_Valid), (46, interval_root.sp)], []⟩) (L := []) ⟨(specs_cons interval_made.ok (specs_cons interval_Valid.ok (specs_cons interval_root.ok specs_nil))), inl_nil, mixed_ok⟩ 40 Tryd.func27 (by decide) rfl no_loops fun vs bl v bl' h => ?_
  unfold interval_Sqrt.sp at h
  split at h
  · rename_i a0_0 a0_1
    simp only [Option.some.injEq, Prod.mk.injEq, true_and] at h
    obtain ⟨rfl, rfl⟩ := h
    refine ⟨?_, by simp [okV, Nat.blt], clo_spec 8 _ (by kernel_rfl), told_blk (by kernel_rfl)⟩
    refine (interval_Sqrt.run interval_made interval_Valid a0_0 a0_1).trans ?_
    refine (interval_Sqrt.nat interval_made interval_Valid a0_0 a0_1 _).trans ?_
    kernel_rfl
  · cases h

/-! ### culet/culetlaw27.within (32) -/
def culetlaw27_within.K {R : Type} (a0_0 : Int) (a0_1 : Int) (a1 : Int) (k : (Int) → Option R) : Option R :=
  bif IntKind.i64.wrap (IntKind.i64.wrap (a0_1 - a0_0) + 1) != 0 then
    k (IntKind.i64.wrap (a0_0 + (IntKind.i64.wrap a1).tmod (IntKind.i64.wrap (IntKind.i64.wrap (a0_1 - a0_0) + 1))))
  else
    none
set_option maxRecDepth 100000 in
theorem culetlaw27_within.run (a0_0 : Int) (a0_1 : Int) (a1 : Int) : xfn Tryd.prog ⟨[], []⟩ [] 40 Tryd.f32 [.agg ⟨[.int .i64 a0_0, .int .i64 a0_1]⟩, .int .u32 a1] [] = culetlaw27_within.K a0_0 a0_1 a1 (fun r => some (.int .i64 r, [])) := by kernel_rfl
def culetlaw27_within.o (a0_0 : Int) (a0_1 : Int) (a1 : Int) : Option (Int) := culetlaw27_within.K a0_0 a0_1 a1 some
def culetlaw27_within.pre (a0_0 : Int) (a0_1 : Int) (a1 : Int) : Bool := (culetlaw27_within.o a0_0 a0_1 a1).isSome
def culetlaw27_within (a0_0 : Int) (a0_1 : Int) (a1 : Int) : Int := (culetlaw27_within.o a0_0 a0_1 a1).getD default
theorem culetlaw27_within.nat {R : Type} (a0_0 : Int) (a0_1 : Int) (a1 : Int) (k : (Int) → Option R) : culetlaw27_within.K a0_0 a0_1 a1 k = (culetlaw27_within.K a0_0 a0_1 a1 some).bind k := by
  simp only [culetlaw27_within.K, bcond, Option.bind_some, Option.bind_none]
theorem culetlaw27_within.at {a b k : Int} (hv : V a b = true) (hk : 0 ≤ k) (hk' : k ≤ 4294967295) : culetlaw27_within.pre a b k = true ∧ a ≤ culetlaw27_within a b k ∧ culetlaw27_within a b k ≤ b := by
  have hV := V_iff.1 hv
  have w1 : IntKind.i64.wrap (b - a) = b - a := w64 (by omega) (by omega)
  have w2 : IntKind.i64.wrap (b - a + 1) = b - a + 1 := w64 (by omega) (by omega)
  have w3 : IntKind.i64.wrap k = k := w64 (by omega) (by omega)
  have n0 : ((b - a + 1) != 0) = true := by simp; omega
  have m1 := Int.emod_nonneg k (show b - a + 1 ≠ 0 by omega)
  have m2 := Int.emod_lt_of_pos k (show 0 < b - a + 1 by omega)
  have t1 : k.tmod (b - a + 1) = k % (b - a + 1) := Int.tmod_eq_emod_of_nonneg hk
  generalize k % (b - a + 1) = x at *
  have w5 : IntKind.i64.wrap (a + x) = a + x := w64 (by omega) (by omega)
  have ho : culetlaw27_within.o a b k = some (a + x) := by
    simp only [culetlaw27_within.o, culetlaw27_within.K, w1, w2, w3, n0, t1, w5, cond_true]
  have h2 : culetlaw27_within a b k = a + x := by unfold culetlaw27_within; rw [ho]; rfl
  exact ⟨by unfold culetlaw27_within.pre; rw [ho]; rfl, by omega, by omega⟩
theorem culetlaw27_within.ok : SOK Tryd.prog 32 (culetlaw27_within.sp culetlaw27_within culetlaw27_within.pre) := by
  refine sok_of (E := ⟨[], []⟩) (L := []) ⟨specs_nil, inl_nil, mixed_ok⟩ 40 Tryd.func32 (by decide) rfl no_loops fun vs bl v bl' h => ?_
  unfold culetlaw27_within.sp at h
  split at h
  · rename_i a0_0 a0_1 a1
    simp only [Option.some.injEq, Prod.mk.injEq] at h
    obtain ⟨hp, rfl, rfl⟩ := h
    have hr := culetlaw27_within.run a0_0 a0_1 a1
    rw [culetlaw27_within.nat] at hr
    obtain ⟨r, h2⟩ := Option.isSome_iff_exists.1 (hp : (culetlaw27_within.o a0_0 a0_1 a1).isSome = true)
    have h3 : culetlaw27_within a0_0 a0_1 a1 = r := by unfold culetlaw27_within; rw [h2]; rfl
    have h4 : culetlaw27_within.K a0_0 a0_1 a1 some = some r := h2
    rw [h4, Option.bind_some] at hr
    rw [h3]
    exact ⟨hr, by simp [okV, Nat.blt], clo_spec 8 _ (by kernel_rfl), told_blk (by kernel_rfl)⟩
  · cases h

/-! ### culet/culetlaw27.IntervalEncloses (7) -/
def culetlaw27_IntervalEncloses.K {R : Type} (f_interval_Add : Int → Int → Int → Int → (Int × Int × Int)) (f_interval_Sub : Int → Int → Int → Int → (Int × Int × Int)) (f_interval_Mul : Int → Int → Int → Int → (Int × Int × Int)) (f_interval_Div : Int → Int → Int → Int → (Int × Int × Int)) (f_culetref27_Valid : Int → Int → (Bool)) (f_interval_Square : Int → Int → (Int × Int × Int)) (f_interval_Sqrt : Int → Int → (Int × Int × Int)) (f_culetlaw27_within : Int → Int → Int → (Int)) (p_culetlaw27_within : Int → Int → Int → Bool) (a0_0 : Int) (a0_1 : Int) (a1_0 : Int) (a1_1 : Int) (a2_0 : Int) (a2_1 : Int) (k : (Bool) → Option R) : Option R :=
  let t0 := f_culetref27_Valid a0_0 a0_1
  let t1 := f_culetref27_Valid a1_0 a1_1
  bif bif !t0 then true else !t1 then
    k (true)
  else
    let t2 := p_culetlaw27_within a0_0 a0_1 a2_0
    bif t2 then
      let t3 := p_culetlaw27_within a1_0 a1_1 a2_1
      bif t3 then
        let t4 := f_interval_Add a0_0 a0_1 a1_0 a1_1
        let t5 := f_culetlaw27_within a0_0 a0_1 a2_0
        let t6 := f_culetlaw27_within a1_0 a1_1 a2_1
        bif bif t4.snd.snd == 0 then bif decide (t4.fst > IntKind.i64.wrap (t5 + t6)) then true else decide (t4.snd.fst < IntKind.i64.wrap (t5 + t6)) else false then
          k (false)
        else
          let t7 := f_interval_Sub a0_0 a0_1 a1_0 a1_1
          bif bif t7.snd.snd == 0 then bif decide (t7.fst > IntKind.i64.wrap (t5 - t6)) then true else decide (t7.snd.fst < IntKind.i64.wrap (t5 - t6)) else false then
            k (false)
          else
            let t8 := f_interval_Mul a0_0 a0_1 a1_0 a1_1
            bif bif t8.snd.snd == 0 then bif decide (IntKind.i64.wrap (t8.fst * 16777216) > IntKind.i64.wrap (t5 * t6)) then true else decide (IntKind.i64.wrap (t8.snd.fst * 16777216) < IntKind.i64.wrap (t5 * t6)) else false then
              k (false)
            else
              let t9 := f_interval_Div a0_0 a0_1 a1_0 a1_1
              bif t9.snd.snd == 0 then
                bif bif bif bif decide (t6 > 0) then bif decide (IntKind.i64.wrap (t9.fst * t6) > IntKind.i64.wrap (t5 * 16777216)) then true else decide (IntKind.i64.wrap (t9.snd.fst * t6) < IntKind.i64.wrap (t5 * 16777216)) else false then true else bif decide (t6 < 0) then bif decide (IntKind.i64.wrap (t9.fst * t6) < IntKind.i64.wrap (t5 * 16777216)) then true else decide (IntKind.i64.wrap (t9.snd.fst * t6) > IntKind.i64.wrap (t5 * 16777216)) else false then true else t6 == 0 then
                  k (false)
                else
                  let t10 := f_interval_Square a0_0 a0_1
                  bif bif t10.snd.snd != 3 then bif t10.snd.snd != 0 then true else bif decide (IntKind.i64.wrap (t10.fst * 16777216) > IntKind.i64.wrap (t5 * t5)) then true else decide (IntKind.i64.wrap (t10.snd.fst * 16777216) < IntKind.i64.wrap (t5 * t5)) else false then
                    k (false)
                  else
                    bif decide (a0_0 < 0) then
                      let t11 := f_interval_Sqrt a0_0 a0_1
                      k (t11.snd.snd == 2)
                    else
                      let t12 := f_interval_Sqrt a0_0 a0_1
                      k (bif bif t12.snd.snd == 0 then decide (IntKind.i64.wrap (t12.fst * t12.fst) ≤ IntKind.i64.wrap (t5 * 16777216)) else false then decide (IntKind.i64.wrap (t12.snd.fst * t12.snd.fst) ≥ IntKind.i64.wrap (t5 * 16777216)) else false)
              else
                let t13 := f_interval_Square a0_0 a0_1
                bif bif t13.snd.snd != 3 then bif t13.snd.snd != 0 then true else bif decide (IntKind.i64.wrap (t13.fst * 16777216) > IntKind.i64.wrap (t5 * t5)) then true else decide (IntKind.i64.wrap (t13.snd.fst * 16777216) < IntKind.i64.wrap (t5 * t5)) else false then
                  k (false)
                else
                  bif decide (a0_0 < 0) then
                    let t14 := f_interval_Sqrt a0_0 a0_1
                    k (t14.snd.snd == 2)
                  else
                    let t15 := f_interval_Sqrt a0_0 a0_1
                    k (bif bif t15.snd.snd == 0 then decide (IntKind.i64.wrap (t15.fst * t15.fst) ≤ IntKind.i64.wrap (t5 * 16777216)) else false then decide (IntKind.i64.wrap (t15.snd.fst * t15.snd.fst) ≥ IntKind.i64.wrap (t5 * 16777216)) else false)
      else
        none
    else
      none
set_option maxRecDepth 100000 in
theorem culetlaw27_IntervalEncloses.run (f_interval_Add : Int → Int → Int → Int → (Int × Int × Int)) (f_interval_Sub : Int → Int → Int → Int → (Int × Int × Int)) (f_interval_Mul : Int → Int → Int → Int → (Int × Int × Int)) (f_interval_Div : Int → Int → Int → Int → (Int × Int × Int)) (f_culetref27_Valid : Int → Int → (Bool)) (f_interval_Square : Int → Int → (Int × Int × Int)) (f_interval_Sqrt : Int → Int → (Int × Int × Int)) (f_culetlaw27_within : Int → Int → Int → (Int)) (p_culetlaw27_within : Int → Int → Int → Bool) (a0_0 : Int) (a0_1 : Int) (a1_0 : Int) (a1_1 : Int) (a2_0 : Int) (a2_1 : Int) : xfn Tryd.prog ⟨[(9, culetlaw27_awake.sp), (9, culetlaw27_awake.sp), (10, interval_Add.sp f_interval_Add), (12, interval_Sub.sp f_interval_Sub), (14, interval_Mul.sp f_interval_Mul), (16, interval_Div.sp f_interval_Div), (20, culetref27_Valid.sp f_culetref27_Valid), (26, interval_Square.sp f_interval_Square), (27, interval_Sqrt.sp f_interval_Sqrt), (32, culetlaw27_within.sp f_culetlaw27_within p_culetlaw27_within)], []⟩ [] 40 Tryd.f7 [.agg ⟨[.int .i64 a0_0, .int .i64 a0_1]⟩, .agg ⟨[.int .i64 a1_0, .int .i64 a1_1]⟩, .agg ⟨[.int .u32 a2_0, .int .u32 a2_1]⟩] [] = culetlaw27_IntervalEncloses.K f_interval_Add f_interval_Sub f_interval_Mul f_interval_Div f_culetref27_Valid f_interval_Square f_interval_Sqrt f_culetlaw27_within p_culetlaw27_within a0_0 a0_1 a1_0 a1_1 a2_0 a2_1 (fun r => some (.bool r, [])) := by kernel_rfl
def culetlaw27_IntervalEncloses.o (a0_0 : Int) (a0_1 : Int) (a1_0 : Int) (a1_1 : Int) (a2_0 : Int) (a2_1 : Int) : Option (Bool) := culetlaw27_IntervalEncloses.K interval_Add interval_Sub interval_Mul interval_Div culetref27_Valid interval_Square interval_Sqrt culetlaw27_within culetlaw27_within.pre a0_0 a0_1 a1_0 a1_1 a2_0 a2_1 some
def culetlaw27_IntervalEncloses.pre (a0_0 : Int) (a0_1 : Int) (a1_0 : Int) (a1_1 : Int) (a2_0 : Int) (a2_1 : Int) : Bool := (culetlaw27_IntervalEncloses.o a0_0 a0_1 a1_0 a1_1 a2_0 a2_1).isSome
def culetlaw27_IntervalEncloses (a0_0 : Int) (a0_1 : Int) (a1_0 : Int) (a1_1 : Int) (a2_0 : Int) (a2_1 : Int) : Bool := (culetlaw27_IntervalEncloses.o a0_0 a0_1 a1_0 a1_1 a2_0 a2_1).getD default
theorem culetlaw27_IntervalEncloses.nat {R : Type} (f_interval_Add : Int → Int → Int → Int → (Int × Int × Int)) (f_interval_Sub : Int → Int → Int → Int → (Int × Int × Int)) (f_interval_Mul : Int → Int → Int → Int → (Int × Int × Int)) (f_interval_Div : Int → Int → Int → Int → (Int × Int × Int)) (f_culetref27_Valid : Int → Int → (Bool)) (f_interval_Square : Int → Int → (Int × Int × Int)) (f_interval_Sqrt : Int → Int → (Int × Int × Int)) (f_culetlaw27_within : Int → Int → Int → (Int)) (p_culetlaw27_within : Int → Int → Int → Bool) (a0_0 : Int) (a0_1 : Int) (a1_0 : Int) (a1_1 : Int) (a2_0 : Int) (a2_1 : Int) (k : (Bool) → Option R) : culetlaw27_IntervalEncloses.K f_interval_Add f_interval_Sub f_interval_Mul f_interval_Div f_culetref27_Valid f_interval_Square f_interval_Sqrt f_culetlaw27_within p_culetlaw27_within a0_0 a0_1 a1_0 a1_1 a2_0 a2_1 k = (culetlaw27_IntervalEncloses.K f_interval_Add f_interval_Sub f_interval_Mul f_interval_Div f_culetref27_Valid f_interval_Square f_interval_Sqrt f_culetlaw27_within p_culetlaw27_within a0_0 a0_1 a1_0 a1_1 a2_0 a2_1 some).bind k := by
  simp only [culetlaw27_IntervalEncloses.K, bcond, Option.bind_some, Option.bind_none]
theorem eta3' (L : Int × Int × Int) (h : L.2.2 = 0) : ∃ l u, L = (l, u, 0) := by
  obtain ⟨l, u, e⟩ := L
  exact ⟨l, u, by rw [show e = 0 from h]⟩
theorem u32_has' {k : Int} (h : IntKind.u32.has k) : 0 ≤ k ∧ k ≤ 4294967295 := by
  unfold IntKind.has at h
  simp [IntKind.signed, IntKind.bits, IntKind.min, IntKind.max] at h
  omega
theorem add_enc {a b c d p q l u : Int} (hp : In p p a b) (hq : In q q c d) (h : iadd a b c d = (l, u, 0)) : l ≤ p + q ∧ p + q ≤ u := by
  obtain ⟨x, y, e, hin, _⟩ := iadd_inc hp hq h
  unfold iadd at e
  rcases hv : V p p && V q q with _ | _
  · rw [hv] at e; cases e
  · rw [hv] at e
    have := chk_ok (show chk (p + q) (p + q) = (x, y, 0) from e)
    unfold In at hin
    omega
theorem sub_enc {a b c d p q l u : Int} (hp : In p p a b) (hq : In q q c d) (h : isub a b c d = (l, u, 0)) : l ≤ p - q ∧ p - q ≤ u := by
  obtain ⟨x, y, e, hin, _⟩ := isub_inc hp hq h
  unfold isub at e
  rcases hv : V p p && V q q with _ | _
  · rw [hv] at e; cases e
  · rw [hv] at e
    have := chk_ok (show chk (p - q) (p - q) = (x, y, 0) from e)
    unfold In at hin
    omega
theorem mul_enc {a b c d p q l u : Int} (hp : In p p a b) (hq : In q q c d) (h : imul a b c d = (l, u, 0)) : l * 16777216 ≤ p * q ∧ p * q ≤ u * 16777216 ∧ V l u = true := by
  unfold imul at h
  rcases hv : V a b && V c d with _ | _
  · rw [hv] at h; cases h
  · rw [hv] at h
    have hc := chk_ok (show chk _ _ = (l, u, 0) from h)
    unfold In at hp hq
    have m := mul_in hp.1 (show p ≤ b by omega) hq.1 (show q ≤ d by omega)
    have f1 := fl_spec (x := mn4 (a * c) (a * d) (b * c) (b * d)) (k := 16777216) (by omega)
    have f2 := cl_spec (x := mx4 (a * c) (a * d) (b * c) (b * d)) (k := 16777216) (by omega)
    rw [hc.1] at f1
    rw [hc.2.1] at f2
    exact ⟨by omega, by omega, V_iff.2 hc.2.2⟩
theorem pdiv_enc {a b c d p q l u : Int} (hc : 0 < c) (hp : In p p a b) (hq : In q q c d) (h : pdiv a b c d = (l, u, 0)) : l * q ≤ p * 16777216 ∧ p * 16777216 ≤ u * q ∧ V l u = true := by
  unfold pdiv at h
  have hk := chk_ok h
  unfold In at hp hq
  have f1 := fl_spec (x := a * 16777216) (k := c) hc
  have f2 := fl_spec (x := a * 16777216) (k := d) (by omega)
  have f3 := cl_spec (x := b * 16777216) (k := c) hc
  have f4 := cl_spec (x := b * 16777216) (k := d) (by omega)
  have l1 : l ≤ a * 16777216 / c := by omega
  have l2 : l ≤ a * 16777216 / d := by omega
  have u1 : cl (b * 16777216) c ≤ u := by omega
  have u2 : cl (b * 16777216) d ≤ u := by omega
  have l1' := Int.mul_le_mul_of_nonneg_right l1 (show 0 ≤ c by omega)
  have l2' := Int.mul_le_mul_of_nonneg_right l2 (show 0 ≤ d by omega)
  have u1' := Int.mul_le_mul_of_nonneg_right u1 (show 0 ≤ c by omega)
  have u2' := Int.mul_le_mul_of_nonneg_right u2 (show 0 ≤ d by omega)
  refine ⟨?_, ?_, V_iff.2 hk.2.2⟩
  · by_cases hl : 0 ≤ l
    · have := Int.mul_le_mul_of_nonneg_left (show q ≤ d by omega) hl
      omega
    · have := Int.mul_le_mul_of_nonpos_left (show l ≤ 0 by omega) (show c ≤ q by omega)
      omega
  · by_cases hl : 0 ≤ u
    · have := Int.mul_le_mul_of_nonneg_left (show c ≤ q by omega) hl
      omega
    · have := Int.mul_le_mul_of_nonpos_left (show u ≤ 0 by omega) (show q ≤ d by omega)
      omega
theorem div_enc {a b c d p q l u : Int} (hp : In p p a b) (hq : In q q c d) (h : idiv a b c d = (l, u, 0)) : V l u = true ∧ (0 < q ∧ l * q ≤ p * 16777216 ∧ p * 16777216 ≤ u * q ∨ q < 0 ∧ p * 16777216 ≤ l * q ∧ u * q ≤ p * 16777216) := by
  unfold idiv at h
  rcases hv : V a b && V c d with _ | _
  · rw [hv] at h; cases h
  · rw [hv] at h
    simp only [cond_true] at h
    split at h
    · cases h
    · rename_i hz
      split at h
      · rename_i hd
        unfold In at hp hq
        have := pdiv_enc (p := -p) (q := -q) (by omega) (by unfold In; omega) (by unfold In; omega) h
        refine ⟨this.2.2, .inr ⟨by omega, ?_, ?_⟩⟩
        · have := this.1; rw [Int.mul_neg, Int.neg_mul] at this; omega
        · have := this.2.1; rw [Int.mul_neg, Int.neg_mul] at this; omega
      · have := pdiv_enc (by unfold In at hq; omega) hp hq h
        exact ⟨this.2.2, .inl ⟨by unfold In at hq; omega, this.1, this.2.1⟩⟩
theorem sq_enc {a b p l u : Int} (hp : In p p a b) (h : isq a b = (l, u, 0)) : l * 16777216 ≤ p * p ∧ p * p ≤ u * 16777216 ∧ V l u = true := by
  unfold isq at h
  rcases hv : V a b with _ | _
  · rw [hv] at h; cases h
  · rw [hv] at h
    have hc := chk_ok (show chk (sqlo a b / 16777216) _ = (l, u, 0) from h)
    unfold In at hp
    have m := sqlo_le (a := a) (b := b) (x := p) hp.1 (by omega)
    have f1 := fl_spec (x := sqlo a b) (k := 16777216) (by omega)
    have f2 := cl_spec (x := max (a * a) (b * b)) (k := 16777216) (by omega)
    rw [hc.1] at f1
    rw [hc.2.1] at f2
    exact ⟨by omega, by omega, V_iff.2 hc.2.2⟩
theorem enc_step {L : Int × Int × Int} {F : Int → Int → Bool} (h : ∀ l u, L = (l, u, 0) → F l u = false) : (bif L.2.2 == 0 then F L.1 L.2.1 else false) = false := by
  cases hL : L.2.2 == 0 with
  | false => rfl
  | true =>
    obtain ⟨l, u, e⟩ := eta3' L (by simpa using hL)
    subst e
    exact h l u rfl
theorem IntervalEncloses.law (a b c d k0 k1 : Int) (h0 : IntKind.u32.has k0) (h1 : IntKind.u32.has k1) : culetlaw27_IntervalEncloses.o a b c d k0 k1 = some true := by
  simp only [culetlaw27_IntervalEncloses.o, culetlaw27_IntervalEncloses.K, culetref27_Valid.eq, interval_Add.eq, interval_Sub.eq, interval_Mul.eq, interval_Div.eq, interval_Square.eq, interval_Sqrt.eq]
  cases hx : V a b with
  | false => rfl
  | true =>
  cases hy : V c d with
  | false => rfl
  | true =>
  have vx := V_iff.1 hx
  have vy := V_iff.1 hy
  have k0h := u32_has' h0
  have k1h := u32_has' h1
  obtain ⟨p1, r1, s1⟩ := culetlaw27_within.at hx k0h.1 k0h.2
  obtain ⟨p2, r2, s2⟩ := culetlaw27_within.at hy k1h.1 k1h.2
  simp only [p1, p2, cond_true, cond_false, Bool.not_true]
  generalize culetlaw27_within a b k0 = p at *
  generalize culetlaw27_within c d k1 = q at *
  have ip : In p p a b := ⟨r1, Int.le_refl _, s1⟩
  have iq : In q q c d := ⟨r2, Int.le_refl _, s2⟩
  have m1 := mul_bnd30 (x := p) (y := q) (by omega) (by omega) (by omega) (by omega)
  have m2 := mul_bnd30 (x := p) (y := p) (by omega) (by omega) (by omega) (by omega)
  have w1 : IntKind.i64.wrap (p + q) = p + q := w64 (by omega) (by omega)
  have w2 : IntKind.i64.wrap (p - q) = p - q := w64 (by omega) (by omega)
  have w3 : IntKind.i64.wrap (p * q) = p * q := w64 (by omega) (by omega)
  have w4 : IntKind.i64.wrap (p * p) = p * p := w64 (by omega) (by omega)
  have w5 : IntKind.i64.wrap (p * 16777216) = p * 16777216 := w64 (by omega) (by omega)
  simp only [w1, w2, w3, w4, w5]
  have A := enc_step (L := iadd a b c d) (F := fun l u => bif decide (l > p + q) then true else decide (u < p + q)) fun l u e => by
    have := add_enc ip iq e
    simp only [decide_eq_false (show ¬ (l > p + q) by omega), decide_eq_false (show ¬ (u < p + q) by omega), cond_false]
  have B := enc_step (L := isub a b c d) (F := fun l u => bif decide (l > p - q) then true else decide (u < p - q)) fun l u e => by
    have := sub_enc ip iq e
    simp only [decide_eq_false (show ¬ (l > p - q) by omega), decide_eq_false (show ¬ (u < p - q) by omega), cond_false]
  have M := enc_step (L := imul a b c d) (F := fun l u => bif decide (IntKind.i64.wrap (l * 16777216) > p * q) then true else decide (IntKind.i64.wrap (u * 16777216) < p * q)) fun l u e => by
    have := mul_enc ip iq e
    have hV := V_iff.1 this.2.2
    rw [w64 (n := l * 16777216) (by omega) (by omega), w64 (n := u * 16777216) (by omega) (by omega)]
    simp only [decide_eq_false (show ¬ (l * 16777216 > p * q) by omega), decide_eq_false (show ¬ (u * 16777216 < p * q) by omega), cond_false]
  have S : (bif (isq a b).2.2 != 3 then bif (isq a b).2.2 != 0 then true else bif decide (IntKind.i64.wrap ((isq a b).1 * 16777216) > p * p) then true else decide (IntKind.i64.wrap ((isq a b).2.1 * 16777216) < p * p) else false) = false := by
    rcases chk_eq (sqlo a b / 16777216) (cl (max (a * a) (b * b)) 16777216) with ⟨h, _⟩ | ⟨h, _⟩
    · have e : isq a b = (sqlo a b / 16777216, cl (max (a * a) (b * b)) 16777216, 0) := by unfold isq; rw [hx]; exact h
      have := sq_enc ip e
      have hV := V_iff.1 this.2.2
      rw [e]
      generalize sqlo a b / 16777216 = l at *
      generalize cl (max (a * a) (b * b)) 16777216 = u at *
      simp only []
      rw [w64 (n := l * 16777216) (by omega) (by omega), w64 (n := u * 16777216) (by omega) (by omega)]
      simp only [decide_eq_false (show ¬ (l * 16777216 > p * p) by omega), decide_eq_false (show ¬ (u * 16777216 < p * p) by omega), cond_false]
      rfl
    · have e : isq a b = (0, 0, 3) := by unfold isq; rw [hx]; exact h
      rw [e]; rfl
  have D : (idiv a b c d).2.2 = 0 → (bif bif bif decide (q > 0) then bif decide (IntKind.i64.wrap ((idiv a b c d).1 * q) > p * 16777216) then true else decide (IntKind.i64.wrap ((idiv a b c d).2.1 * q) < p * 16777216) else false then true else bif decide (q < 0) then bif decide (IntKind.i64.wrap ((idiv a b c d).1 * q) < p * 16777216) then true else decide (IntKind.i64.wrap ((idiv a b c d).2.1 * q) > p * 16777216) else false then true else q == 0) = false := by
    intro h
    obtain ⟨l, u, e⟩ := eta3' _ h
    obtain ⟨hv, hh⟩ := div_enc ip iq e
    have hV := V_iff.1 hv
    have n1 := mul_bnd30 (x := l) (y := q) (by omega) (by omega) (by omega) (by omega)
    have n2 := mul_bnd30 (x := u) (y := q) (by omega) (by omega) (by omega) (by omega)
    rw [e]
    simp only []
    rw [w64 (n := l * q) (by omega) (by omega), w64 (n := u * q) (by omega) (by omega)]
    have hz : (q == 0) = false := by simp; omega
    rcases hh with hh | hh
    · simp only [decide_eq_true (show q > 0 by omega), decide_eq_false (show ¬ (q < 0) by omega), decide_eq_false (show ¬ (l * q > p * 16777216) by omega), decide_eq_false (show ¬ (u * q < p * 16777216) by omega), hz, cond_false, cond_true]
    · simp only [decide_eq_false (show ¬ (q > 0) by omega), decide_eq_true (show q < 0 by omega), decide_eq_false (show ¬ (l * q < p * 16777216) by omega), decide_eq_false (show ¬ (u * q > p * 16777216) by omega), hz, cond_false, cond_true]
  have R : (bif decide (a < 0) then some ((isr a b).2.2 == 2) else some (bif bif (isr a b).2.2 == 0 then decide (IntKind.i64.wrap ((isr a b).1 * (isr a b).1) ≤ p * 16777216) else false then decide (IntKind.i64.wrap ((isr a b).2.1 * (isr a b).2.1) ≥ p * 16777216) else false)) = some true := by
    by_cases ha : a < 0
    · rw [decide_eq_true ha, show isr a b = (0, 0, 2) by unfold isr; rw [hx, cond_true, if_pos ha]]; rfl
    · have g := isr_range (a := a) (b := b) (by omega) (by omega) (by omega)
      have s1 := sqt_spec (n := a * 16777216) (by omega) (by omega)
      have s2 := sqc_spec (n := b * 16777216) (by omega) (by omega)
      rw [decide_eq_false ha, show isr a b = (sqt (a * 16777216), sqc (b * 16777216), 0) by unfold isr; rw [hx, cond_true, if_neg ha]]
      generalize sqt (a * 16777216) = l at *
      generalize sqc (b * 16777216) = u at *
      have n1 := mul_bnd30 (x := l) (y := l) (by omega) (by omega) (by omega) (by omega)
      have n2 := mul_bnd30 (x := u) (y := u) (by omega) (by omega) (by omega) (by omega)
      simp only []
      rw [w64 (n := l * l) (by omega) (by omega), w64 (n := u * u) (by omega) (by omega), decide_eq_true (show l * l ≤ p * 16777216 by omega), decide_eq_true (show u * u ≥ p * 16777216 by omega)]
      rfl
  simp only [A, B, M, S, R, cond_false]
  cases hd : (idiv a b c d).2.2 == 0 with
  | false => rfl
  | true =>
    rw [D (by simpa using hd)]
    rfl
theorem culetlaw27_IntervalEncloses.calls (a0_0 : Int) (a0_1 : Int) (a1_0 : Int) (a1_1 : Int) (a2_0 : Int) (a2_1 : Int) (h : culetlaw27_IntervalEncloses.o a0_0 a0_1 a1_0 a1_1 a2_0 a2_1 = some true) (w : World) (ht : TabOk w) : Calls Tryd.prog 7 ⟨[.agg ⟨[.int .i64 a0_0, .int .i64 a0_1]⟩, .agg ⟨[.int .i64 a1_0, .int .i64 a1_1]⟩, .agg ⟨[.int .u32 a2_0, .int .u32 a2_1]⟩]⟩ w fun e w' => e = .returned (.bool true) ∧ Below w.heap.size w w' := by
  refine calls_run (E := ⟨[(9, culetlaw27_awake.sp), (9, culetlaw27_awake.sp), (10, interval_Add.sp interval_Add), (12, interval_Sub.sp interval_Sub), (14, interval_Mul.sp interval_Mul), (16, interval_Div.sp interval_Div), (20, culetref27_Valid.sp culetref27_Valid), (26, interval_Square.sp interval_Square), (27, interval_Sqrt.sp interval_Sqrt), (32, culetlaw27_within.sp culetlaw27_within culetlaw27_within.pre)], []⟩) (L := []) ⟨(specs_cons culetlaw27_awake.ok (specs_cons culetlaw27_awake.ok (specs_cons interval_Add.ok (specs_cons interval_Sub.ok (specs_cons interval_Mul.ok (specs_cons interval_Div.ok (specs_cons culetref27_Valid.ok (specs_cons interval_Square.ok (specs_cons interval_Sqrt.ok (specs_cons culetlaw27_within.ok specs_nil)))))))))), inl_nil, mixed_ok⟩ 40 Tryd.func7 (by decide) rfl no_loops (vs := [.agg ⟨[.int .i64 a0_0, .int .i64 a0_1]⟩, .agg ⟨[.int .i64 a1_0, .int .i64 a1_1]⟩, .agg ⟨[.int .u32 a2_0, .int .u32 a2_1]⟩]) (v := .bool true) ?_ (by simp [okV, Nat.blt]) (clo_spec 8 _ rfl) w ht
  refine (culetlaw27_IntervalEncloses.run interval_Add interval_Sub interval_Mul interval_Div culetref27_Valid interval_Square interval_Sqrt culetlaw27_within culetlaw27_within.pre a0_0 a0_1 a1_0 a1_1 a2_0 a2_1).trans ?_
  rw [culetlaw27_IntervalEncloses.nat]
  have h4 : culetlaw27_IntervalEncloses.K interval_Add interval_Sub interval_Mul interval_Div culetref27_Valid interval_Square interval_Sqrt culetlaw27_within culetlaw27_within.pre a0_0 a0_1 a1_0 a1_1 a2_0 a2_1 some = some true := h
  rw [h4]
  rfl

end Go.Proofs.YtpghmdjjkpjnfaaDoor.G
