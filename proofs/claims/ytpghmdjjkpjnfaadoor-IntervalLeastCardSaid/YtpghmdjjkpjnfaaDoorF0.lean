/- The functions, their runs and their contracts. WRITTEN BY gen.py of this repo. -/
import Derived.Test.YtpghmdjjkpjnfaaDoorS
import Derived.Test.YtpghmdjjkpjnfaaDoorM
import Derived.Test.YtpghmdjjkpjnfaaDoorIv
import Derived.Test.YtpghmdjjkpjnfaaDoorSq
import Derived.Test.YtpghmdjjkpjnfaaDoorExt
import Derived.Test.YtpghmdjjkpjnfaaDoorNear27
import Derived.Test.YtpghmdjjkpjnfaaDoorRoot
import Derived.Test.YtpghmdjjkpjnfaaDoorXwk27
namespace Go.Proofs.YtpghmdjjkpjnfaaDoor.G
open Go Go.Proofs Go.RowKit RX
set_option linter.unusedVariables false
set_option linter.unusedSimpArgs false
/-! ### culet/interval.Valid (45) -/
def interval_Valid.K {R : Type} (a0_0 : Int) (a0_1 : Int) (k : (Bool) → R) : R :=
  bif decide (a0_0 ≤ a0_1) then
    bif decide (a0_0 ≥ -1073741824) then
      k (decide (a0_1 ≤ 1073741824))
    else
      k (false)
  else
    k (false)
set_option maxRecDepth 100000 in
theorem interval_Valid.run (a0_0 : Int) (a0_1 : Int) : xfn Tryd.prog ⟨[], []⟩ [] 40 Tryd.f45 [.agg ⟨[.int .i64 a0_0, .int .i64 a0_1]⟩] [] = interval_Valid.K a0_0 a0_1 (fun r => some (.bool r, [])) := by kernel_rfl
def interval_Valid (a0_0 : Int) (a0_1 : Int) : Bool := interval_Valid.K a0_0 a0_1 id
theorem interval_Valid.nat {R : Type} (a0_0 : Int) (a0_1 : Int) (k : (Bool) → R) : interval_Valid.K a0_0 a0_1 k = k (interval_Valid.K a0_0 a0_1 id) := by
  simp only [interval_Valid.K, acond k, id_eq]
theorem interval_Valid.eq (a b : Int) : interval_Valid a b = V a b := by
  simp only [interval_Valid, interval_Valid.K, id_eq, V]
  by_cases h1 : a ≤ b <;> by_cases h2 : a ≥ -1073741824 <;> by_cases h3 : b ≤ 1073741824 <;> simp [h1, h2, h3] <;> omega
theorem interval_Valid.ok : SOK Tryd.prog 45 (interval_Valid.sp interval_Valid) := by
  refine sok_of (E := ⟨[], []⟩) (L := []) ⟨specs_nil, inl_nil, mixed_ok⟩ 40 Tryd.func45 (by decide) rfl no_loops fun vs bl v bl' h => ?_
  unfold interval_Valid.sp at h
  split at h
  · rename_i a0_0 a0_1
    simp only [Option.some.injEq, Prod.mk.injEq, true_and] at h
    obtain ⟨rfl, rfl⟩ := h
    refine ⟨?_, by simp [okV, Nat.blt], clo_spec 8 _ (by kernel_rfl), told_blk (by kernel_rfl)⟩
    refine (interval_Valid.run a0_0 a0_1).trans ?_
    refine (interval_Valid.nat a0_0 a0_1 _).trans ?_
    kernel_rfl
  · cases h

/-! ### culet/interval.made (37) -/
def interval_made.K {R : Type} (a0 : Int) (a1 : Int) (k : Int × Int × Int → R) : R :=
  bif decide (a0 < -1073741824) then
    k (0, 0, 3)
  else
    bif decide (a1 > 1073741824) then
      k (0, 0, 3)
    else
      k (a0, a1, 0)
set_option maxRecDepth 100000 in
theorem interval_made.run (a0 : Int) (a1 : Int) : xfn Tryd.prog ⟨[], []⟩ [] 40 Tryd.f37 [.int .i64 a0, .int .i64 a1] [] = interval_made.K a0 a1 (fun r => some (.tuple ⟨[.agg ⟨[.int .i64 r.1, .int .i64 r.2.1]⟩, .int .i64 r.2.2]⟩, [])) := by kernel_rfl
def interval_made (a0 : Int) (a1 : Int) : Int × Int × Int := interval_made.K a0 a1 id
theorem interval_made.nat {R : Type} (a0 : Int) (a1 : Int) (k : Int × Int × Int → R) : interval_made.K a0 a1 k = k (interval_made.K a0 a1 id) := by
  simp only [interval_made.K, acond k, id_eq]
theorem interval_made.eq {a b : Int} (h : a ≤ b) : interval_made a b = chk a b := by
  simp only [interval_made, interval_made.K, id_eq, chk]
  by_cases h1 : a < -1073741824
  · rw [V_not.2 (by omega)]; simp [h1]
  · by_cases h2 : b > 1073741824
    · rw [V_not.2 (by omega)]; simp [h1, h2]
    · rw [V_iff.2 ⟨by omega, h, by omega⟩]; simp [h1, h2]
theorem interval_made.ok : SOK Tryd.prog 37 (interval_made.sp interval_made) := by
  refine sok_of (E := ⟨[], []⟩) (L := []) ⟨specs_nil, inl_nil, mixed_ok⟩ 40 Tryd.func37 (by decide) rfl no_loops fun vs bl v bl' h => ?_
  unfold interval_made.sp at h
  split at h
  · rename_i a0 a1
    simp only [Option.some.injEq, Prod.mk.injEq, true_and] at h
    obtain ⟨rfl, rfl⟩ := h
    refine ⟨?_, by simp [okV, Nat.blt], clo_spec 8 _ (by kernel_rfl), told_blk (by kernel_rfl)⟩
    refine (interval_made.run a0 a1).trans ?_
    refine (interval_made.nat a0 a1 _).trans ?_
    kernel_rfl
  · cases h

/-! ### culet/interval.Add (10) -/
def interval_Add.K {R : Type} (f_interval_Valid : Int → Int → (Bool)) (f_interval_made : Int → Int → (Int × Int × Int)) (a0_0 : Int) (a0_1 : Int) (a1_0 : Int) (a1_1 : Int) (k : Int × Int × Int → R) : R :=
  let t0 := f_interval_Valid a0_0 a0_1
  bif !t0 then
    k (0, 0, 1)
  else
    let t1 := f_interval_Valid a1_0 a1_1
    bif !t1 then
      k (0, 0, 1)
    else
      let t2 := f_interval_made (IntKind.i64.wrap (a0_0 + a1_0)) (IntKind.i64.wrap (a0_1 + a1_1))
      k (t2.fst, t2.snd.fst, t2.snd.snd)
set_option maxRecDepth 100000 in
theorem interval_Add.run (f_interval_Valid : Int → Int → (Bool)) (f_interval_made : Int → Int → (Int × Int × Int)) (a0_0 : Int) (a0_1 : Int) (a1_0 : Int) (a1_1 : Int) : xfn Tryd.prog ⟨[(45, interval_Valid.sp f_interval_Valid), (37, interval_made.sp f_interval_made)], [(36, Tryd.f36)]⟩ [] 40 Tryd.f10 [.agg ⟨[.int .i64 a0_0, .int .i64 a0_1]⟩, .agg ⟨[.int .i64 a1_0, .int .i64 a1_1]⟩] [] = interval_Add.K f_interval_Valid f_interval_made a0_0 a0_1 a1_0 a1_1 (fun r => some (.tuple ⟨[.agg ⟨[.int .i64 r.1, .int .i64 r.2.1]⟩, .int .i64 r.2.2]⟩, [])) := by kernel_rfl
def interval_Add (a0_0 : Int) (a0_1 : Int) (a1_0 : Int) (a1_1 : Int) : Int × Int × Int := interval_Add.K interval_Valid interval_made a0_0 a0_1 a1_0 a1_1 id
theorem interval_Add.nat {R : Type} (f_interval_Valid : Int → Int → (Bool)) (f_interval_made : Int → Int → (Int × Int × Int)) (a0_0 : Int) (a0_1 : Int) (a1_0 : Int) (a1_1 : Int) (k : Int × Int × Int → R) : interval_Add.K f_interval_Valid f_interval_made a0_0 a0_1 a1_0 a1_1 k = k (interval_Add.K f_interval_Valid f_interval_made a0_0 a0_1 a1_0 a1_1 id) := by
  simp only [interval_Add.K, acond k, id_eq]
theorem interval_Add.eq (a b c d : Int) : interval_Add a b c d = iadd a b c d := by
  simp only [interval_Add, interval_Add.K, id_eq, interval_Valid.eq, iadd]
  cases h1 : V a b with
  | false => simp
  | true => cases h2 : V c d with
    | false => simp
    | true =>
      have := V_iff.1 h1
      have := V_iff.1 h2
      rw [w64 (by omega) (by omega), w64 (by omega) (by omega), interval_made.eq (by omega)]
      simp
theorem interval_Add.ok : SOK Tryd.prog 10 (interval_Add.sp interval_Add) := by
  refine sok_of (E := ⟨[(45, interval_Valid.sp interval_Valid), (37, interval_made.sp interval_made)], [(36, Tryd.f36)]⟩) (L := []) ⟨(specs_cons interval_Valid.ok (specs_cons interval_made.ok specs_nil)), (inl_cons ⟨Tryd.func36, by decide, rfl⟩ inl_nil), mixed_ok⟩ 40 Tryd.func10 (by decide) rfl no_loops fun vs bl v bl' h => ?_
  unfold interval_Add.sp at h
  split at h
  · rename_i a0_0 a0_1 a1_0 a1_1
    simp only [Option.some.injEq, Prod.mk.injEq, true_and] at h
    obtain ⟨rfl, rfl⟩ := h
    refine ⟨?_, by simp [okV, Nat.blt], clo_spec 8 _ (by kernel_rfl), told_blk (by kernel_rfl)⟩
    refine (interval_Add.run interval_Valid interval_made a0_0 a0_1 a1_0 a1_1).trans ?_
    refine (interval_Add.nat interval_Valid interval_made a0_0 a0_1 a1_0 a1_1 _).trans ?_
    kernel_rfl
  · cases h

/-! ### culet/interval.floor (41) -/
def interval_floor.K {R : Type} (a0 : Int) (a1 : Int) (k : (Int) → Option R) : Option R :=
  bif a1 != 0 then
    bif a1 != 0 then
      bif a0.tmod a1 != 0 then
        bif decide (a0 < 0) then
          k (IntKind.i64.wrap (IntKind.i64.wrap (a0.tdiv a1) - 1))
        else
          k (IntKind.i64.wrap (a0.tdiv a1))
      else
        k (IntKind.i64.wrap (a0.tdiv a1))
    else
      none
  else
    none
set_option maxRecDepth 100000 in
theorem interval_floor.run (a0 : Int) (a1 : Int) : xfn Tryd.prog ⟨[], []⟩ [] 40 Tryd.f41 [.int .i64 a0, .int .i64 a1] [] = interval_floor.K a0 a1 (fun r => some (.int .i64 r, [])) := by kernel_rfl
def interval_floor.o (a0 : Int) (a1 : Int) : Option (Int) := interval_floor.K a0 a1 some
def interval_floor.pre (a0 : Int) (a1 : Int) : Bool := (interval_floor.o a0 a1).isSome
def interval_floor (a0 : Int) (a1 : Int) : Int := (interval_floor.o a0 a1).getD default
theorem interval_floor.nat {R : Type} (a0 : Int) (a1 : Int) (k : (Int) → Option R) : interval_floor.K a0 a1 k = (interval_floor.K a0 a1 some).bind k := by
  simp only [interval_floor.K, bcond, Option.bind_some, Option.bind_none]
theorem interval_floor.eq {a b : Int} (hb : 0 < b) (h1 : -4611686018427387904 ≤ a) (h2 : a ≤ 4611686018427387904) : interval_floor a b = a / b := by
  have hb0 : (b != 0) = true := by simp; omega
  have hq := tdiv_bnd hb h1 h2
  simp only [interval_floor, interval_floor.o, interval_floor.K, hb0, cond_true]
  have hd : a.tdiv b = a / b + if 0 ≤ a ∨ b ∣ a then 0 else b.sign := Int.tdiv_eq_ediv
  rw [Int.sign_eq_one_of_pos hb] at hd
  by_cases hm : a.tmod b = 0
  · have hv : b ∣ a := Int.dvd_of_tmod_eq_zero hm
    simp only [hv, or_true, if_true, Int.add_zero] at hd
    simp only [hm, bne_self_eq_false, cond_false, Option.getD_some, hd]
    exact w64 (by omega) (by omega)
  · have hv : ¬ b ∣ a := fun h => hm (Int.tmod_eq_zero_of_dvd h)
    have hm' : (a.tmod b != 0) = true := by simp [hm]
    simp only [hm', cond_true]
    by_cases ha : a < 0
    · simp only [hv, or_false, show ¬ 0 ≤ a from by omega, if_false] at hd
      simp only [ha, decide_true, cond_true, Option.getD_some, hd]
      rw [w64 (n := a / b + 1) (by omega) (by omega), Int.add_sub_cancel, w64 (by omega) (by omega)]
    · simp only [show 0 ≤ a from by omega, true_or, if_true, Int.add_zero] at hd
      simp only [ha, decide_false, cond_false, Option.getD_some, hd]
      exact w64 (by omega) (by omega)
theorem interval_floor.ok : SOK Tryd.prog 41 (interval_floor.sp interval_floor) := by
  refine sok_of (E := ⟨[], []⟩) (L := []) ⟨specs_nil, inl_nil, mixed_ok⟩ 40 Tryd.func41 (by decide) rfl no_loops fun vs bl v bl' h => ?_
  unfold interval_floor.sp at h
  split at h
  · rename_i a0 a1
    simp only [Option.some.injEq, Prod.mk.injEq] at h
    obtain ⟨hp, rfl, rfl⟩ := h
    have hr := interval_floor.run a0 a1
    rw [interval_floor.nat] at hr
    obtain ⟨r, h2⟩ := Option.isSome_iff_exists.1 (by simp [interval_floor.o, interval_floor.K, isSome_cond, bool_cond_true, hp] : (interval_floor.o a0 a1).isSome = true)
    have h3 : interval_floor a0 a1 = r := by unfold interval_floor; rw [h2]; rfl
    have h4 : interval_floor.K a0 a1 some = some r := h2
    rw [h4, Option.bind_some] at hr
    rw [h3]
    exact ⟨hr, by simp [okV, Nat.blt], clo_spec 8 _ (by kernel_rfl), told_blk (by kernel_rfl)⟩
  · cases h

/-! ### culet/interval.ceil (42) -/
def interval_ceil.K {R : Type} (f_interval_floor : Int → Int → (Int)) (a0 : Int) (a1 : Int) (k : (Int) → Option R) : Option R :=
  bif a1 != 0 then
    let t0 := f_interval_floor (IntKind.i64.wrap (0 - a0)) a1
    k (IntKind.i64.wrap (0 - t0))
  else
    none
set_option maxRecDepth 100000 in
theorem interval_ceil.run (f_interval_floor : Int → Int → (Int)) (a0 : Int) (a1 : Int) : xfn Tryd.prog ⟨[(41, interval_floor.sp f_interval_floor)], []⟩ [] 40 Tryd.f42 [.int .i64 a0, .int .i64 a1] [] = interval_ceil.K f_interval_floor a0 a1 (fun r => some (.int .i64 r, [])) := by kernel_rfl
def interval_ceil.o (a0 : Int) (a1 : Int) : Option (Int) := interval_ceil.K interval_floor a0 a1 some
def interval_ceil.pre (a0 : Int) (a1 : Int) : Bool := (interval_ceil.o a0 a1).isSome
def interval_ceil (a0 : Int) (a1 : Int) : Int := (interval_ceil.o a0 a1).getD default
theorem interval_ceil.nat {R : Type} (f_interval_floor : Int → Int → (Int)) (a0 : Int) (a1 : Int) (k : (Int) → Option R) : interval_ceil.K f_interval_floor a0 a1 k = (interval_ceil.K f_interval_floor a0 a1 some).bind k := by
  simp only [interval_ceil.K, bcond, Option.bind_some, Option.bind_none]
theorem interval_ceil.eq {a b : Int} (hb : 0 < b) (h1 : -4611686018427387904 ≤ a) (h2 : a ≤ 4611686018427387904) : interval_ceil a b = cl a b := by
  have hb0 : (b != 0) = true := by simp; omega
  have hq := tdiv_bnd (a := -a) hb (by omega) (by omega)
  simp only [interval_ceil, interval_ceil.o, interval_ceil.K, hb0, cond_true, Option.getD_some, Int.zero_sub]
  rw [w64 (n := -a) (by omega) (by omega), interval_floor.eq hb (by omega) (by omega), w64 (by omega) (by omega)]
  rfl
theorem interval_ceil.ok : SOK Tryd.prog 42 (interval_ceil.sp interval_ceil) := by
  refine sok_of (E := ⟨[(41, interval_floor.sp interval_floor)], []⟩) (L := []) ⟨(specs_cons interval_floor.ok specs_nil), inl_nil, mixed_ok⟩ 40 Tryd.func42 (by decide) rfl no_loops fun vs bl v bl' h => ?_
  unfold interval_ceil.sp at h
  split at h
  · rename_i a0 a1
    simp only [Option.some.injEq, Prod.mk.injEq] at h
    obtain ⟨hp, rfl, rfl⟩ := h
    have hr := interval_ceil.run interval_floor a0 a1
    rw [interval_ceil.nat] at hr
    obtain ⟨r, h2⟩ := Option.isSome_iff_exists.1 (by simp [interval_ceil.o, interval_ceil.K, isSome_cond, bool_cond_true, hp] : (interval_ceil.o a0 a1).isSome = true)
    have h3 : interval_ceil a0 a1 = r := by unfold interval_ceil; rw [h2]; rfl
    have h4 : interval_ceil.K interval_floor a0 a1 some = some r := h2
    rw [h4, Option.bind_some] at hr
    rw [h3]
    exact ⟨hr, by simp [okV, Nat.blt], clo_spec 8 _ (by kernel_rfl), told_blk (by kernel_rfl)⟩
  · cases h

/-! ### culet/interval.Mul (14) -/
def interval_Mul.K {R : Type} (f_interval_Valid : Int → Int → (Bool)) (f_interval_made : Int → Int → (Int × Int × Int)) (f_interval_floor : Int → Int → (Int)) (f_interval_ceil : Int → Int → (Int)) (a0_0 : Int) (a0_1 : Int) (a1_0 : Int) (a1_1 : Int) (k : Int × Int × Int → R) : R :=
  let t0 := f_interval_Valid a0_0 a0_1
  bif !t0 then
    k (0, 0, 1)
  else
    let t1 := f_interval_Valid a1_0 a1_1
    bif !t1 then
      k (0, 0, 1)
    else
      let t2 := f_interval_floor (mn (mn (mn (mn (IntKind.i64.wrap (a0_0 * a1_0)) (IntKind.i64.wrap (a0_0 * a1_0))) (IntKind.i64.wrap (a0_0 * a1_1))) (IntKind.i64.wrap (a0_1 * a1_0))) (IntKind.i64.wrap (a0_1 * a1_1))) 16777216
      let t3 := f_interval_ceil (mx (mx (mx (mx (IntKind.i64.wrap (a0_0 * a1_0)) (IntKind.i64.wrap (a0_0 * a1_0))) (IntKind.i64.wrap (a0_0 * a1_1))) (IntKind.i64.wrap (a0_1 * a1_0))) (IntKind.i64.wrap (a0_1 * a1_1))) 16777216
      let t4 := f_interval_made t2 t3
      k (t4.fst, t4.snd.fst, t4.snd.snd)
set_option maxRecDepth 100000 in
theorem interval_Mul.run (f_interval_Valid : Int → Int → (Bool)) (f_interval_made : Int → Int → (Int × Int × Int)) (f_interval_floor : Int → Int → (Int)) (f_interval_ceil : Int → Int → (Int)) (a0_0 : Int) (a0_1 : Int) (a1_0 : Int) (a1_1 : Int) : xfn Tryd.prog ⟨[(45, interval_Valid.sp f_interval_Valid), (37, interval_made.sp f_interval_made), (40, interval_extremes.sp), (41, interval_floor.sp f_interval_floor), (42, interval_ceil.sp f_interval_ceil)], [(36, Tryd.f36)]⟩ [] 40 Tryd.f14 [.agg ⟨[.int .i64 a0_0, .int .i64 a0_1]⟩, .agg ⟨[.int .i64 a1_0, .int .i64 a1_1]⟩] [] = interval_Mul.K f_interval_Valid f_interval_made f_interval_floor f_interval_ceil a0_0 a0_1 a1_0 a1_1 (fun r => some (.tuple ⟨[.agg ⟨[.int .i64 r.1, .int .i64 r.2.1]⟩, .int .i64 r.2.2]⟩, [])) := by kernel_rfl
def interval_Mul (a0_0 : Int) (a0_1 : Int) (a1_0 : Int) (a1_1 : Int) : Int × Int × Int := interval_Mul.K interval_Valid interval_made interval_floor interval_ceil a0_0 a0_1 a1_0 a1_1 id
theorem interval_Mul.nat {R : Type} (f_interval_Valid : Int → Int → (Bool)) (f_interval_made : Int → Int → (Int × Int × Int)) (f_interval_floor : Int → Int → (Int)) (f_interval_ceil : Int → Int → (Int)) (a0_0 : Int) (a0_1 : Int) (a1_0 : Int) (a1_1 : Int) (k : Int × Int × Int → R) : interval_Mul.K f_interval_Valid f_interval_made f_interval_floor f_interval_ceil a0_0 a0_1 a1_0 a1_1 k = k (interval_Mul.K f_interval_Valid f_interval_made f_interval_floor f_interval_ceil a0_0 a0_1 a1_0 a1_1 id) := by
  simp only [interval_Mul.K, acond k, id_eq]
theorem interval_Mul.eq (a b c d : Int) : interval_Mul a b c d = imul a b c d := by
  simp only [interval_Mul, interval_Mul.K, id_eq, interval_Valid.eq, imul]
  cases h1 : V a b with
  | false => simp
  | true => cases h2 : V c d with
    | false => simp
    | true =>
      have := V_iff.1 h1
      have := V_iff.1 h2
      have e1 := mul_bnd30 (x := a) (y := c) (by omega) (by omega) (by omega) (by omega)
      have e2 := mul_bnd30 (x := a) (y := d) (by omega) (by omega) (by omega) (by omega)
      have e3 := mul_bnd30 (x := b) (y := c) (by omega) (by omega) (by omega) (by omega)
      have e4 := mul_bnd30 (x := b) (y := d) (by omega) (by omega) (by omega) (by omega)
      have w1 : IntKind.i64.wrap (a * c) = a * c := w64 (by omega) (by omega)
      have w2 : IntKind.i64.wrap (a * d) = a * d := w64 (by omega) (by omega)
      have w3 : IntKind.i64.wrap (b * c) = b * c := w64 (by omega) (by omega)
      have w4 : IntKind.i64.wrap (b * d) = b * d := w64 (by omega) (by omega)
      have m1 : min (min (min (min (a * c) (a * c)) (a * d)) (b * c)) (b * d) = mn4 (a * c) (a * d) (b * c) (b * d) := by simp only [mn4]; omega
      have m2 : max (max (max (max (a * c) (a * c)) (a * d)) (b * c)) (b * d) = mx4 (a * c) (a * d) (b * c) (b * d) := by simp only [mx4]; omega
      simp only [w1, w2, w3, w4, mn_eq, mx_eq, Bool.not_true, cond_false, Bool.and_self, cond_true, m1, m2]
      have hmn : mn4 (a * c) (a * d) (b * c) (b * d) ≤ mx4 (a * c) (a * d) (b * c) (b * d) := by simp only [mn4, mx4]; omega
      rw [interval_floor.eq (by omega) (by simp only [mn4]; omega) (by simp only [mn4]; omega), interval_ceil.eq (by omega) (by simp only [mx4]; omega) (by simp only [mx4]; omega), interval_made.eq (fl_le_cl' (by omega) hmn)]
theorem interval_Mul.ok : SOK Tryd.prog 14 (interval_Mul.sp interval_Mul) := by
  refine sok_of (E := ⟨[(45, interval_Valid.sp interval_Valid), (37, interval_made.sp interval_made), (40, interval_extremes.sp), (41, interval_floor.sp interval_floor), (42, interval_ceil.sp interval_ceil)], [(36, Tryd.f36)]⟩) (L := []) ⟨(specs_cons interval_Valid.ok (specs_cons interval_made.ok (specs_cons interval_extremes.ok (specs_cons interval_floor.ok (specs_cons interval_ceil.ok specs_nil))))), (inl_cons ⟨Tryd.func36, by decide, rfl⟩ inl_nil), mixed_ok⟩ 40 Tryd.func14 (by decide) rfl no_loops fun vs bl v bl' h => ?_
  unfold interval_Mul.sp at h
  split at h
  · rename_i a0_0 a0_1 a1_0 a1_1
    simp only [Option.some.injEq, Prod.mk.injEq, true_and] at h
    obtain ⟨rfl, rfl⟩ := h
    refine ⟨?_, by simp [okV, Nat.blt], clo_spec 8 _ (by kernel_rfl), told_blk (by kernel_rfl)⟩
    refine (interval_Mul.run interval_Valid interval_made interval_floor interval_ceil a0_0 a0_1 a1_0 a1_1).trans ?_
    refine (interval_Mul.nat interval_Valid interval_made interval_floor interval_ceil a0_0 a0_1 a1_0 a1_1 _).trans ?_
    kernel_rfl
  · cases h

/-! ### culet/culetref27.Valid (20) -/
def culetref27_Valid.K {R : Type} (a0_0 : Int) (a0_1 : Int) (k : (Bool) → R) : R :=
  bif decide (-1073741824 ≤ a0_0) then
    bif decide (a0_0 ≤ a0_1) then
      k (decide (a0_1 ≤ 1073741824))
    else
      k (false)
  else
    k (false)
set_option maxRecDepth 100000 in
theorem culetref27_Valid.run (a0_0 : Int) (a0_1 : Int) : xfn Tryd.prog ⟨[], []⟩ [] 40 Tryd.f20 [.agg ⟨[.int .i64 a0_0, .int .i64 a0_1]⟩] [] = culetref27_Valid.K a0_0 a0_1 (fun r => some (.bool r, [])) := by kernel_rfl
def culetref27_Valid (a0_0 : Int) (a0_1 : Int) : Bool := culetref27_Valid.K a0_0 a0_1 id
theorem culetref27_Valid.nat {R : Type} (a0_0 : Int) (a0_1 : Int) (k : (Bool) → R) : culetref27_Valid.K a0_0 a0_1 k = k (culetref27_Valid.K a0_0 a0_1 id) := by
  simp only [culetref27_Valid.K, acond k, id_eq]
theorem culetref27_Valid.eq (a b : Int) : culetref27_Valid a b = V a b := by
  simp only [culetref27_Valid, culetref27_Valid.K, id_eq, V]
  by_cases h1 : -1073741824 ≤ a <;> by_cases h2 : a ≤ b <;> by_cases h3 : b ≤ 1073741824 <;> simp [h1, h2, h3]
theorem culetref27_Valid.ok : SOK Tryd.prog 20 (culetref27_Valid.sp culetref27_Valid) := by
  refine sok_of (E := ⟨[], []⟩) (L := []) ⟨specs_nil, inl_nil, mixed_ok⟩ 40 Tryd.func20 (by decide) rfl no_loops fun vs bl v bl' h => ?_
  unfold culetref27_Valid.sp at h
  split at h
  · rename_i a0_0 a0_1
    simp only [Option.some.injEq, Prod.mk.injEq, true_and] at h
    obtain ⟨rfl, rfl⟩ := h
    refine ⟨?_, by simp [okV, Nat.blt], clo_spec 8 _ (by kernel_rfl), told_blk (by kernel_rfl)⟩
    refine (culetref27_Valid.run a0_0 a0_1).trans ?_
    refine (culetref27_Valid.nat a0_0 a0_1 _).trans ?_
    kernel_rfl
  · cases h

/-! ### culet/interval.Square (26) -/
def interval_Square.K {R : Type} (f_interval_made : Int → Int → (Int × Int × Int)) (f_interval_floor : Int → Int → (Int)) (f_interval_ceil : Int → Int → (Int)) (f_interval_Valid : Int → Int → (Bool)) (a0_0 : Int) (a0_1 : Int) (k : Int × Int × Int → R) : R :=
  let t0 := f_interval_Valid a0_0 a0_1
  bif !t0 then
    k (0, 0, 1)
  else
    bif decide (a0_0 ≤ 0) then
      bif decide (a0_1 ≥ 0) then
        let t1 := f_interval_floor 0 16777216
        let t2 := f_interval_ceil (mx (mx (IntKind.i64.wrap (a0_0 * a0_0)) (IntKind.i64.wrap (a0_0 * a0_0))) (IntKind.i64.wrap (a0_1 * a0_1))) 16777216
        let t3 := f_interval_made t1 t2
        k (t3.fst, t3.snd.fst, t3.snd.snd)
      else
        let t4 := f_interval_floor (mn (mn (IntKind.i64.wrap (a0_0 * a0_0)) (IntKind.i64.wrap (a0_0 * a0_0))) (IntKind.i64.wrap (a0_1 * a0_1))) 16777216
        let t5 := f_interval_ceil (mx (mx (IntKind.i64.wrap (a0_0 * a0_0)) (IntKind.i64.wrap (a0_0 * a0_0))) (IntKind.i64.wrap (a0_1 * a0_1))) 16777216
        let t6 := f_interval_made t4 t5
        k (t6.fst, t6.snd.fst, t6.snd.snd)
    else
      let t7 := f_interval_floor (mn (mn (IntKind.i64.wrap (a0_0 * a0_0)) (IntKind.i64.wrap (a0_0 * a0_0))) (IntKind.i64.wrap (a0_1 * a0_1))) 16777216
      let t8 := f_interval_ceil (mx (mx (IntKind.i64.wrap (a0_0 * a0_0)) (IntKind.i64.wrap (a0_0 * a0_0))) (IntKind.i64.wrap (a0_1 * a0_1))) 16777216
      let t9 := f_interval_made t7 t8
      k (t9.fst, t9.snd.fst, t9.snd.snd)
set_option maxRecDepth 100000 in
theorem interval_Square.run (f_interval_made : Int → Int → (Int × Int × Int)) (f_interval_floor : Int → Int → (Int)) (f_interval_ceil : Int → Int → (Int)) (f_interval_Valid : Int → Int → (Bool)) (a0_0 : Int) (a0_1 : Int) : xfn Tryd.prog ⟨[(37, interval_made.sp f_interval_made), (40, interval_extremes.sp), (41, interval_floor.sp f_interval_floor), (42, interval_ceil.sp f_interval_ceil), (45, interval_Valid.sp f_interval_Valid)], []⟩ [] 40 Tryd.f26 [.agg ⟨[.int .i64 a0_0, .int .i64 a0_1]⟩] [] = interval_Square.K f_interval_made f_interval_floor f_interval_ceil f_interval_Valid a0_0 a0_1 (fun r => some (.tuple ⟨[.agg ⟨[.int .i64 r.1, .int .i64 r.2.1]⟩, .int .i64 r.2.2]⟩, [])) := by kernel_rfl
def interval_Square (a0_0 : Int) (a0_1 : Int) : Int × Int × Int := interval_Square.K interval_made interval_floor interval_ceil interval_Valid a0_0 a0_1 id
theorem interval_Square.nat {R : Type} (f_interval_made : Int → Int → (Int × Int × Int)) (f_interval_floor : Int → Int → (Int)) (f_interval_ceil : Int → Int → (Int)) (f_interval_Valid : Int → Int → (Bool)) (a0_0 : Int) (a0_1 : Int) (k : Int × Int × Int → R) : interval_Square.K f_interval_made f_interval_floor f_interval_ceil f_interval_Valid a0_0 a0_1 k = k (interval_Square.K f_interval_made f_interval_floor f_interval_ceil f_interval_Valid a0_0 a0_1 id) := by
  simp only [interval_Square.K, acond k, id_eq]
theorem interval_Square.eq (a b : Int) : interval_Square a b = isq a b := by
  simp only [interval_Square, interval_Square.K, id_eq, interval_Valid.eq, isq]
  cases h1 : V a b with
  | false => simp
  | true =>
    have := V_iff.1 h1
    have e1 := mul_bnd30 (x := a) (y := a) (by omega) (by omega) (by omega) (by omega)
    have e4 := mul_bnd30 (x := b) (y := b) (by omega) (by omega) (by omega) (by omega)
    have s1 := sq_nonneg a
    have s2 := sq_nonneg b
    have w1 : IntKind.i64.wrap (a * a) = a * a := w64 (by omega) (by omega)
    have w4 : IntKind.i64.wrap (b * b) = b * b := w64 (by omega) (by omega)
    have m1 : min (min (a * a) (a * a)) (b * b) = min (a * a) (b * b) := by omega
    have m2 : max (max (a * a) (a * a)) (b * b) = max (a * a) (b * b) := by omega
    simp only [w1, w4, mn_eq, mx_eq, Bool.not_true, cond_false, cond_true, m1, m2]
    have r1 : interval_floor (min (a * a) (b * b)) 16777216 = min (a * a) (b * b) / 16777216 := interval_floor.eq (by omega) (by omega) (by omega)
    have r2 : interval_ceil (max (a * a) (b * b)) 16777216 = cl (max (a * a) (b * b)) 16777216 := interval_ceil.eq (by omega) (by omega) (by omega)
    have r3 : interval_floor 0 16777216 = 0 / 16777216 := interval_floor.eq (by omega) (by omega) (by omega)
    have hk : (0 : Int) < 16777216 := by omega
    rw [r1, r2, r3, interval_made.eq (fl_le_cl' hk (by omega)), interval_made.eq (fl_le_cl' hk (by omega))]
    by_cases h2 : a ≤ 0 <;> by_cases h3 : b ≥ 0 <;> simp [h2, h3]
theorem interval_Square.ok : SOK Tryd.prog 26 (interval_Square.sp interval_Square) := by
  refine sok_of (E := ⟨[(37, interval_made.sp interval_made), (40, interval_extremes.sp), (41, interval_floor.sp interval_floor), (42, interval_ceil.sp interval_ceil), (45, interval_Valid.sp interval_Valid)], []⟩) (L := []) ⟨(specs_cons interval_made.ok (specs_cons interval_extremes.ok (specs_cons interval_floor.ok (specs_cons interval_ceil.ok (specs_cons interval_Valid.ok specs_nil))))), inl_nil, mixed_ok⟩ 40 Tryd.func26 (by decide) rfl no_loops fun vs bl v bl' h => ?_
  unfold interval_Square.sp at h
  split at h
  · rename_i a0_0 a0_1
    simp only [Option.some.injEq, Prod.mk.injEq, true_and] at h
    obtain ⟨rfl, rfl⟩ := h
    refine ⟨?_, by simp [okV, Nat.blt], clo_spec 8 _ (by kernel_rfl), told_blk (by kernel_rfl)⟩
    refine (interval_Square.run interval_made interval_floor interval_ceil interval_Valid a0_0 a0_1).trans ?_
    refine (interval_Square.nat interval_made interval_floor interval_ceil interval_Valid a0_0 a0_1 _).trans ?_
    kernel_rfl
  · cases h

/-! ### culet/interval.Sqrt (27) -/
def interval_Sqrt.K {R : Type} (f_interval_made : Int → Int → (Int × Int × Int)) (f_interval_Valid : Int → Int → (Bool)) (a0_0 : Int) (a0_1 : Int) (k : Int × Int × Int → R) : R :=
  let t0 := f_interval_Valid a0_0 a0_1
  bif !t0 then
    k (0, 0, 1)
  else
    bif decide (a0_0 < 0) then
      k (0, 0, 2)
    else
      bif decide (IntKind.i64.wrap (root.rt 32 (IntKind.i64.wrap (a0_1 * 16777216)) 0 * root.rt 32 (IntKind.i64.wrap (a0_1 * 16777216)) 0) < IntKind.i64.wrap (a0_1 * 16777216)) then
        let t1 := f_interval_made (root.rt 32 (IntKind.i64.wrap (a0_0 * 16777216)) 0) (IntKind.i64.wrap (root.rt 32 (IntKind.i64.wrap (a0_1 * 16777216)) 0 + 1))
        k (t1.fst, t1.snd.fst, t1.snd.snd)
      else
        let t2 := f_interval_made (root.rt 32 (IntKind.i64.wrap (a0_0 * 16777216)) 0) (root.rt 32 (IntKind.i64.wrap (a0_1 * 16777216)) 0)
        k (t2.fst, t2.snd.fst, t2.snd.snd)
set_option maxRecDepth 100000 in
theorem interval_Sqrt.run (f_interval_made : Int → Int → (Int × Int × Int)) (f_interval_Valid : Int → Int → (Bool)) (a0_0 : Int) (a0_1 : Int) : xfn Tryd.prog ⟨[(37, interval_made.sp f_interval_made), (45, interval_Valid.sp f_interval_Valid), (46, interval_root.sp)], []⟩ [] 40 Tryd.f27 [.agg ⟨[.int .i64 a0_0, .int .i64 a0_1]⟩] [] = interval_Sqrt.K f_interval_made f_interval_Valid a0_0 a0_1 (fun r => some (.tuple ⟨[.agg ⟨[.int .i64 r.1, .int .i64 r.2.1]⟩, .int .i64 r.2.2]⟩, [])) := by kernel_rfl
def interval_Sqrt (a0_0 : Int) (a0_1 : Int) : Int × Int × Int := interval_Sqrt.K interval_made interval_Valid a0_0 a0_1 id
theorem interval_Sqrt.nat {R : Type} (f_interval_made : Int → Int → (Int × Int × Int)) (f_interval_Valid : Int → Int → (Bool)) (a0_0 : Int) (a0_1 : Int) (k : Int × Int × Int → R) : interval_Sqrt.K f_interval_made f_interval_Valid a0_0 a0_1 k = k (interval_Sqrt.K f_interval_made f_interval_Valid a0_0 a0_1 id) := by
  simp only [interval_Sqrt.K, acond k, id_eq]
theorem root_rts : ∀ (k : Nat) (n r : Int), 0 ≤ n → n ≤ 18014398509481984 → 0 ≤ r → r + ((2 ^ k : Nat) : Int) ≤ 4294967296 → root.rt k n r = rts k n r
  | 0, n, r, _, _, _, _ => rfl
  | k + 1, n, r, h0, h1, h2, h3 => by
    have e : ((2 ^ (k + 1) : Nat) : Int) = ((2 ^ k : Nat) : Int) + ((2 ^ k : Nat) : Int) := by rw [Nat.pow_succ]; omega
    have e2 : (2 : Int) ^ k = ((2 ^ k : Nat) : Int) := (Int.natCast_pow 2 k).symm
    have hp : 0 < ((2 ^ k : Nat) : Int) := by have := Nat.two_pow_pos k; omega
    rw [e] at h3
    have hq := tdiv_bnd (a := n) (b := r + ((2 ^ k : Nat) : Int)) (by omega) (by omega) (by omega)
    simp only [root.rt, rts, bitOf_succ, e2]
    rw [w64 (n := r + ((2 ^ k : Nat) : Int)) (by omega) (by omega), Int.tdiv_eq_ediv_of_nonneg h0, w64 (by omega) (by omega)]
    have hi : r + ((2 ^ k : Nat) : Int) ≤ n / (r + ((2 ^ k : Nat) : Int)) ↔ (r + ((2 ^ k : Nat) : Int)) * (r + ((2 ^ k : Nat) : Int)) ≤ n := le_fl (by omega)
    by_cases hc : (r + ((2 ^ k : Nat) : Int)) * (r + ((2 ^ k : Nat) : Int)) ≤ n
    · rw [if_pos hc, if_pos (hi.2 hc)]
      exact root_rts k n _ h0 h1 (by omega) (by omega)
    · rw [if_neg hc, if_neg (fun h => hc (hi.1 h))]
      exact root_rts k n _ h0 h1 h2 (by omega)
theorem root_sqt {n : Int} (h0 : 0 ≤ n) (h : n ≤ 18014398509481984) : root.rt 32 n 0 = sqt n := root_rts 32 n 0 h0 h (by omega) (by decide)
theorem interval_Sqrt.eq (a b : Int) : interval_Sqrt a b = isr a b := by
  simp only [interval_Sqrt, interval_Sqrt.K, id_eq, interval_Valid.eq, isr]
  cases hv : V a b with
  | false => rfl
  | true =>
    have := V_iff.1 hv
    by_cases ha : a < 0
    · simp only [ha, decide_true, Bool.not_true, cond_false, cond_true, if_true]
    · have w1 : IntKind.i64.wrap (a * 16777216) = a * 16777216 := w64 (by omega) (by omega)
      have w2 : IntKind.i64.wrap (b * 16777216) = b * 16777216 := w64 (by omega) (by omega)
      have r1 := root_sqt (n := a * 16777216) (by omega) (by omega)
      have r2 := root_sqt (n := b * 16777216) (by omega) (by omega)
      have s2 := sqt_spec (n := b * 16777216) (by omega) (by omega)
      have g := isr_range (a := a) (b := b) (by omega) (by omega) (by omega)
      have g2 := (sqc_spec (n := b * 16777216) (by omega) (by omega)).2.2.2
      simp only [ha, decide_false, Bool.not_true, cond_false, cond_true, if_false, w1, w2, r1, r2]
      have g3 := sq_nonneg (sqt (b * 16777216))
      rw [w64 (n := sqt (b * 16777216) * sqt (b * 16777216)) (by omega) (by omega)]
      by_cases hc : sqt (b * 16777216) * sqt (b * 16777216) < b * 16777216
      · have e : sqc (b * 16777216) = sqt (b * 16777216) + 1 := by rw [sqc, if_pos hc]
        simp only [hc, decide_true, cond_true]
        rw [w64 (by omega) (by omega), ← e, interval_made.eq (by omega), chk_of (by omega) (by omega) (by omega)]
      · have e : sqc (b * 16777216) = sqt (b * 16777216) := by rw [sqc, if_neg hc]
        simp only [hc, decide_false, cond_false]
        rw [← e, interval_made.eq (by omega), chk_of (by omega) (by omega) (by omega)]
theorem interval_Sqrt.ok : SOK Tryd.prog 27 (interval_Sqrt.sp interval_Sqrt) := by
  refine sok_of (E := ⟨[(37, interval_made.sp interval_made), (45, interval_Valid.sp interval_Valid), (46, interval_root.sp)], []⟩) (L := []) ⟨(specs_cons interval_made.ok (specs_cons interval_Valid.ok (specs_cons interval_root.ok specs_nil))), inl_nil, mixed_ok⟩ 40 Tryd.func27 (by decide) rfl no_loops fun vs bl v bl' h => ?_
  unfold interval_Sqrt.sp at h
  split at h
  · rename_i a0_0 a0_1
    simp only [Option.some.injEq, Prod.mk.injEq, true_and] at h
    obtain ⟨rfl, rfl⟩ := h
    refine ⟨?_, by simp [okV, Nat.blt], clo_spec 8 _ (by kernel_rfl), told_blk (by kernel_rfl)⟩
    refine (interval_Sqrt.run interval_made interval_Valid a0_0 a0_1).trans ?_
    refine (interval_Sqrt.nat interval_made interval_Valid a0_0 a0_1 _).trans ?_
    kernel_rfl
  · cases h

/-! ### culet/culetlaw27.IntervalLeast (5) -/
def culetlaw27_IntervalLeast.K {R : Type} (f_interval_Add : Int → Int → Int → Int → (Int × Int × Int)) (f_interval_Mul : Int → Int → Int → Int → (Int × Int × Int)) (f_culetref27_Valid : Int → Int → (Bool)) (f_interval_Square : Int → Int → (Int × Int × Int)) (f_interval_Sqrt : Int → Int → (Int × Int × Int)) (a0_0 : Int) (a0_1 : Int) (a1_0 : Int) (a1_1 : Int) (k : (Bool) → R) : R :=
  let t0 := f_culetref27_Valid a0_0 a0_1
  bif !t0 then
    k (true)
  else
    let t1 := f_culetref27_Valid a1_0 a1_1
    bif !t1 then
      k (true)
    else
      let t2 := f_interval_Add a0_0 a0_1 a1_0 a1_1
      bif t2.snd.snd == 0 then
        bif !(t2.fst == IntKind.i64.wrap (a0_0 + a1_0) && t2.snd.fst == IntKind.i64.wrap (a0_1 + a1_1)) then
          k (false)
        else
          let t3 := f_interval_Mul a0_0 a0_1 a1_0 a1_1
          bif t3.snd.snd == 0 then
            bif !nearB false t3.fst 16777216 [IntKind.i64.wrap (a0_0 * a1_0), IntKind.i64.wrap (a0_0 * a1_1), IntKind.i64.wrap (a0_1 * a1_0), IntKind.i64.wrap (a0_1 * a1_1)] then
              k (false)
            else
              bif !nearB true t3.snd.fst 16777216 [IntKind.i64.wrap (a0_0 * a1_0), IntKind.i64.wrap (a0_0 * a1_1), IntKind.i64.wrap (a0_1 * a1_0), IntKind.i64.wrap (a0_1 * a1_1)] then
                k (false)
              else
                let t4 := f_interval_Square a0_0 a0_1
                bif t4.snd.snd == 0 then
                  bif !nearB false t4.fst 16777216 [IntKind.i64.wrap (a0_0 * a0_0), IntKind.i64.wrap (a0_1 * a0_1), 0] then
                    k (false)
                  else
                    bif !nearB true t4.snd.fst 16777216 [IntKind.i64.wrap (a0_0 * a0_0), IntKind.i64.wrap (a0_1 * a0_1)] then
                      k (false)
                    else
                      let t5 := f_interval_Sqrt a0_0 a0_1
                      bif t5.snd.snd != 0 then
                        k (true)
                      else
                        bif decide (IntKind.i64.wrap (IntKind.i64.wrap (t5.fst + 1) * IntKind.i64.wrap (t5.fst + 1)) > IntKind.i64.wrap (a0_0 * 16777216)) then
                          bif t5.snd.fst == 0 then
                            k (true)
                          else
                            k (decide (IntKind.i64.wrap (IntKind.i64.wrap (t5.snd.fst - 1) * IntKind.i64.wrap (t5.snd.fst - 1)) < IntKind.i64.wrap (a0_1 * 16777216)))
                        else
                          k (false)
                else
                  let t6 := f_interval_Sqrt a0_0 a0_1
                  bif t6.snd.snd != 0 then
                    k (true)
                  else
                    bif decide (IntKind.i64.wrap (IntKind.i64.wrap (t6.fst + 1) * IntKind.i64.wrap (t6.fst + 1)) > IntKind.i64.wrap (a0_0 * 16777216)) then
                      bif t6.snd.fst == 0 then
                        k (true)
                      else
                        k (decide (IntKind.i64.wrap (IntKind.i64.wrap (t6.snd.fst - 1) * IntKind.i64.wrap (t6.snd.fst - 1)) < IntKind.i64.wrap (a0_1 * 16777216)))
                    else
                      k (false)
          else
            let t7 := f_interval_Square a0_0 a0_1
            bif t7.snd.snd == 0 then
              bif !nearB false t7.fst 16777216 [IntKind.i64.wrap (a0_0 * a0_0), IntKind.i64.wrap (a0_1 * a0_1), 0] then
                k (false)
              else
                bif !nearB true t7.snd.fst 16777216 [IntKind.i64.wrap (a0_0 * a0_0), IntKind.i64.wrap (a0_1 * a0_1)] then
                  k (false)
                else
                  let t8 := f_interval_Sqrt a0_0 a0_1
                  bif t8.snd.snd != 0 then
                    k (true)
                  else
                    bif decide (IntKind.i64.wrap (IntKind.i64.wrap (t8.fst + 1) * IntKind.i64.wrap (t8.fst + 1)) > IntKind.i64.wrap (a0_0 * 16777216)) then
                      bif t8.snd.fst == 0 then
                        k (true)
                      else
                        k (decide (IntKind.i64.wrap (IntKind.i64.wrap (t8.snd.fst - 1) * IntKind.i64.wrap (t8.snd.fst - 1)) < IntKind.i64.wrap (a0_1 * 16777216)))
                    else
                      k (false)
            else
              let t9 := f_interval_Sqrt a0_0 a0_1
              bif t9.snd.snd != 0 then
                k (true)
              else
                bif decide (IntKind.i64.wrap (IntKind.i64.wrap (t9.fst + 1) * IntKind.i64.wrap (t9.fst + 1)) > IntKind.i64.wrap (a0_0 * 16777216)) then
                  bif t9.snd.fst == 0 then
                    k (true)
                  else
                    k (decide (IntKind.i64.wrap (IntKind.i64.wrap (t9.snd.fst - 1) * IntKind.i64.wrap (t9.snd.fst - 1)) < IntKind.i64.wrap (a0_1 * 16777216)))
                else
                  k (false)
      else
        let t10 := f_interval_Mul a0_0 a0_1 a1_0 a1_1
        bif t10.snd.snd == 0 then
          bif !nearB false t10.fst 16777216 [IntKind.i64.wrap (a0_0 * a1_0), IntKind.i64.wrap (a0_0 * a1_1), IntKind.i64.wrap (a0_1 * a1_0), IntKind.i64.wrap (a0_1 * a1_1)] then
            k (false)
          else
            bif !nearB true t10.snd.fst 16777216 [IntKind.i64.wrap (a0_0 * a1_0), IntKind.i64.wrap (a0_0 * a1_1), IntKind.i64.wrap (a0_1 * a1_0), IntKind.i64.wrap (a0_1 * a1_1)] then
              k (false)
            else
              let t11 := f_interval_Square a0_0 a0_1
              bif t11.snd.snd == 0 then
                bif !nearB false t11.fst 16777216 [IntKind.i64.wrap (a0_0 * a0_0), IntKind.i64.wrap (a0_1 * a0_1), 0] then
                  k (false)
                else
                  bif !nearB true t11.snd.fst 16777216 [IntKind.i64.wrap (a0_0 * a0_0), IntKind.i64.wrap (a0_1 * a0_1)] then
                    k (false)
                  else
                    let t12 := f_interval_Sqrt a0_0 a0_1
                    bif t12.snd.snd != 0 then
                      k (true)
                    else
                      bif decide (IntKind.i64.wrap (IntKind.i64.wrap (t12.fst + 1) * IntKind.i64.wrap (t12.fst + 1)) > IntKind.i64.wrap (a0_0 * 16777216)) then
                        bif t12.snd.fst == 0 then
                          k (true)
                        else
                          k (decide (IntKind.i64.wrap (IntKind.i64.wrap (t12.snd.fst - 1) * IntKind.i64.wrap (t12.snd.fst - 1)) < IntKind.i64.wrap (a0_1 * 16777216)))
                      else
                        k (false)
              else
                let t13 := f_interval_Sqrt a0_0 a0_1
                bif t13.snd.snd != 0 then
                  k (true)
                else
                  bif decide (IntKind.i64.wrap (IntKind.i64.wrap (t13.fst + 1) * IntKind.i64.wrap (t13.fst + 1)) > IntKind.i64.wrap (a0_0 * 16777216)) then
                    bif t13.snd.fst == 0 then
                      k (true)
                    else
                      k (decide (IntKind.i64.wrap (IntKind.i64.wrap (t13.snd.fst - 1) * IntKind.i64.wrap (t13.snd.fst - 1)) < IntKind.i64.wrap (a0_1 * 16777216)))
                  else
                    k (false)
        else
          let t14 := f_interval_Square a0_0 a0_1
          bif t14.snd.snd == 0 then
            bif !nearB false t14.fst 16777216 [IntKind.i64.wrap (a0_0 * a0_0), IntKind.i64.wrap (a0_1 * a0_1), 0] then
              k (false)
            else
              bif !nearB true t14.snd.fst 16777216 [IntKind.i64.wrap (a0_0 * a0_0), IntKind.i64.wrap (a0_1 * a0_1)] then
                k (false)
              else
                let t15 := f_interval_Sqrt a0_0 a0_1
                bif t15.snd.snd != 0 then
                  k (true)
                else
                  bif decide (IntKind.i64.wrap (IntKind.i64.wrap (t15.fst + 1) * IntKind.i64.wrap (t15.fst + 1)) > IntKind.i64.wrap (a0_0 * 16777216)) then
                    bif t15.snd.fst == 0 then
                      k (true)
                    else
                      k (decide (IntKind.i64.wrap (IntKind.i64.wrap (t15.snd.fst - 1) * IntKind.i64.wrap (t15.snd.fst - 1)) < IntKind.i64.wrap (a0_1 * 16777216)))
                  else
                    k (false)
          else
            let t16 := f_interval_Sqrt a0_0 a0_1
            bif t16.snd.snd != 0 then
              k (true)
            else
              bif decide (IntKind.i64.wrap (IntKind.i64.wrap (t16.fst + 1) * IntKind.i64.wrap (t16.fst + 1)) > IntKind.i64.wrap (a0_0 * 16777216)) then
                bif t16.snd.fst == 0 then
                  k (true)
                else
                  k (decide (IntKind.i64.wrap (IntKind.i64.wrap (t16.snd.fst - 1) * IntKind.i64.wrap (t16.snd.fst - 1)) < IntKind.i64.wrap (a0_1 * 16777216)))
              else
                k (false)
set_option maxRecDepth 100000 in
theorem culetlaw27_IntervalLeast.run (f_interval_Add : Int → Int → Int → Int → (Int × Int × Int)) (f_interval_Mul : Int → Int → Int → Int → (Int × Int × Int)) (f_culetref27_Valid : Int → Int → (Bool)) (f_interval_Square : Int → Int → (Int × Int × Int)) (f_interval_Sqrt : Int → Int → (Int × Int × Int)) (a0_0 : Int) (a0_1 : Int) (a1_0 : Int) (a1_1 : Int) : xfn Tryd.prog ⟨[(9, culetlaw27_awake.sp), (10, interval_Add.sp f_interval_Add), (14, interval_Mul.sp f_interval_Mul), (20, culetref27_Valid.sp f_culetref27_Valid), (25, culetlaw27_near.sp), (26, interval_Square.sp f_interval_Square), (27, interval_Sqrt.sp f_interval_Sqrt)], []⟩ [] 40 Tryd.f5 [.agg ⟨[.int .i64 a0_0, .int .i64 a0_1]⟩, .agg ⟨[.int .i64 a1_0, .int .i64 a1_1]⟩] [] = culetlaw27_IntervalLeast.K f_interval_Add f_interval_Mul f_culetref27_Valid f_interval_Square f_interval_Sqrt a0_0 a0_1 a1_0 a1_1 (fun r => some (.bool r, [])) := by kernel_rfl
def culetlaw27_IntervalLeast (a0_0 : Int) (a0_1 : Int) (a1_0 : Int) (a1_1 : Int) : Bool := culetlaw27_IntervalLeast.K interval_Add interval_Mul culetref27_Valid interval_Square interval_Sqrt a0_0 a0_1 a1_0 a1_1 id
theorem culetlaw27_IntervalLeast.nat {R : Type} (f_interval_Add : Int → Int → Int → Int → (Int × Int × Int)) (f_interval_Mul : Int → Int → Int → Int → (Int × Int × Int)) (f_culetref27_Valid : Int → Int → (Bool)) (f_interval_Square : Int → Int → (Int × Int × Int)) (f_interval_Sqrt : Int → Int → (Int × Int × Int)) (a0_0 : Int) (a0_1 : Int) (a1_0 : Int) (a1_1 : Int) (k : (Bool) → R) : culetlaw27_IntervalLeast.K f_interval_Add f_interval_Mul f_culetref27_Valid f_interval_Square f_interval_Sqrt a0_0 a0_1 a1_0 a1_1 k = k (culetlaw27_IntervalLeast.K f_interval_Add f_interval_Mul f_culetref27_Valid f_interval_Square f_interval_Sqrt a0_0 a0_1 a1_0 a1_1 id) := by
  simp only [culetlaw27_IntervalLeast.K, acond k, id_eq]
theorem nearB_of {up : Bool} {u n x : Int} : ∀ {l : List Int}, x ∈ l → 0 ≤ nearD up u n x → nearD up u n x < n → nearB up u n l = true
  | y :: r, hm, h0, h1 => by
    simp only [nearB]
    cases hm with
    | head => rw [decide_eq_true (show nearD up u n x ≥ 0 from h0), decide_eq_true h1]; rfl
    | tail _ hm =>
      rw [nearB_of hm h0 h1]
      cases decide (nearD up u n y ≥ 0) <;> cases decide (nearD up u n y < n) <;> rfl
theorem near_lo {x : Int} (h1 : -1152921504606846976 ≤ x) (h2 : x ≤ 1152921504606846976) : 0 ≤ nearD false (x / 16777216) 16777216 x ∧ nearD false (x / 16777216) 16777216 x < 16777216 := by
  have hs := fl_spec (x := x) (k := 16777216) (by omega)
  simp only [nearD, cond_false]
  rw [w64 (n := x / 16777216 * 16777216) (by omega) (by omega), w64 (by omega) (by omega)]
  omega
theorem near_hi {x : Int} (h1 : -1152921504606846976 ≤ x) (h2 : x ≤ 1152921504606846976) : 0 ≤ nearD true (cl x 16777216) 16777216 x ∧ nearD true (cl x 16777216) 16777216 x < 16777216 := by
  have hs := cl_spec (x := x) (k := 16777216) (by omega)
  simp only [nearD, cond_true]
  rw [w64 (n := cl x 16777216 * 16777216) (by omega) (by omega), w64 (n := x - cl x 16777216 * 16777216) (by omega) (by omega), w64 (by omega) (by omega)]
  omega
theorem IntervalLeast.law (a b c d : Int) : culetlaw27_IntervalLeast a b c d = true := by
  simp only [culetlaw27_IntervalLeast, culetlaw27_IntervalLeast.K, id_eq, culetref27_Valid.eq, interval_Add.eq, interval_Mul.eq, interval_Square.eq, interval_Sqrt.eq]
  cases hx : V a b with
  | false => rfl
  | true =>
  cases hy : V c d with
  | false => rfl
  | true =>
  have vx := V_iff.1 hx
  have vy := V_iff.1 hy
  have e1 := mul_bnd30 (x := a) (y := c) (by omega) (by omega) (by omega) (by omega)
  have e2 := mul_bnd30 (x := a) (y := d) (by omega) (by omega) (by omega) (by omega)
  have e3 := mul_bnd30 (x := b) (y := c) (by omega) (by omega) (by omega) (by omega)
  have e4 := mul_bnd30 (x := b) (y := d) (by omega) (by omega) (by omega) (by omega)
  have q1 := mul_bnd30 (x := a) (y := a) (by omega) (by omega) (by omega) (by omega)
  have q2 := mul_bnd30 (x := b) (y := b) (by omega) (by omega) (by omega) (by omega)
  have w1 : IntKind.i64.wrap (a * c) = a * c := w64 (by omega) (by omega)
  have w2 : IntKind.i64.wrap (a * d) = a * d := w64 (by omega) (by omega)
  have w3 : IntKind.i64.wrap (b * c) = b * c := w64 (by omega) (by omega)
  have w4 : IntKind.i64.wrap (b * d) = b * d := w64 (by omega) (by omega)
  have w5 : IntKind.i64.wrap (a * a) = a * a := w64 (by omega) (by omega)
  have w6 : IntKind.i64.wrap (b * b) = b * b := w64 (by omega) (by omega)
  have w7 : IntKind.i64.wrap (a + c) = a + c := w64 (by omega) (by omega)
  have w8 : IntKind.i64.wrap (b + d) = b + d := w64 (by omega) (by omega)
  have w9 : IntKind.i64.wrap (a * 16777216) = a * 16777216 := w64 (by omega) (by omega)
  have w10 : IntKind.i64.wrap (b * 16777216) = b * 16777216 := w64 (by omega) (by omega)
  have A : ((iadd a b c d).2.2 == 0) = false ∨ iadd a b c d = (a + c, b + d, 0) := by
    rcases chk_eq (a + c) (b + d) with ⟨h, _⟩ | ⟨h, _⟩
    · right; unfold iadd; rw [hx, hy]; exact h
    · left; unfold iadd; rw [hx, hy]; show ((chk (a + c) (b + d)).2.2 == 0) = false; rw [h]; rfl
  have Mu : ((imul a b c d).2.2 == 0) = false ∨ ∃ l u, imul a b c d = (l, u, 0) ∧ nearB false l 16777216 [a * c, a * d, b * c, b * d] = true ∧ nearB true u 16777216 [a * c, a * d, b * c, b * d] = true := by
    rcases chk_eq (mn4 (a * c) (a * d) (b * c) (b * d) / 16777216) (cl (mx4 (a * c) (a * d) (b * c) (b * d)) 16777216) with ⟨h, _⟩ | ⟨h, _⟩
    · right
      have m1 : mn4 (a * c) (a * d) (b * c) (b * d) ∈ [a * c, a * d, b * c, b * d] := by simp only [List.mem_cons, List.not_mem_nil, or_false, mn4]; omega
      have m2 : mx4 (a * c) (a * d) (b * c) (b * d) ∈ [a * c, a * d, b * c, b * d] := by simp only [List.mem_cons, List.not_mem_nil, or_false, mx4]; omega
      have n1 := near_lo (x := mn4 (a * c) (a * d) (b * c) (b * d)) (by simp only [mn4]; omega) (by simp only [mn4]; omega)
      have n2 := near_hi (x := mx4 (a * c) (a * d) (b * c) (b * d)) (by simp only [mx4]; omega) (by simp only [mx4]; omega)
      exact ⟨_, _, by unfold imul; rw [hx, hy]; exact h, nearB_of m1 n1.1 n1.2, nearB_of m2 n2.1 n2.2⟩
    · left; unfold imul; rw [hx, hy]; show ((chk _ _).2.2 == 0) = false; rw [h]; rfl
  have Sq : ((isq a b).2.2 == 0) = false ∨ ∃ l u, isq a b = (l, u, 0) ∧ nearB false l 16777216 [a * a, b * b, 0] = true ∧ nearB true u 16777216 [a * a, b * b] = true := by
    rcases chk_eq ((if a ≤ 0 ∧ 0 ≤ b then 0 else min (a * a) (b * b)) / 16777216) (cl (max (a * a) (b * b)) 16777216) with ⟨h, _⟩ | ⟨h, _⟩
    · right
      have m1 : (if a ≤ 0 ∧ 0 ≤ b then 0 else min (a * a) (b * b)) ∈ [a * a, b * b, 0] := by simp only [List.mem_cons, List.not_mem_nil, or_false]; split <;> omega
      have m2 : max (a * a) (b * b) ∈ [a * a, b * b] := by simp only [List.mem_cons, List.not_mem_nil, or_false]; omega
      have n1 := near_lo (x := if a ≤ 0 ∧ 0 ≤ b then 0 else min (a * a) (b * b)) (by split <;> omega) (by split <;> omega)
      have n2 := near_hi (x := max (a * a) (b * b)) (by omega) (by omega)
      exact ⟨_, _, by unfold isq; rw [hx]; exact h, nearB_of m1 n1.1 n1.2, nearB_of m2 n2.1 n2.2⟩
    · left; unfold isq; rw [hx]; show ((chk _ _).2.2 == 0) = false; rw [h]; rfl
  have Rt : ((isr a b).2.2 != 0) = true ∨ ∃ l u, isr a b = (l, u, 0) ∧ decide (IntKind.i64.wrap (IntKind.i64.wrap (l + 1) * IntKind.i64.wrap (l + 1)) > a * 16777216) = true ∧ (u = 0 ∨ decide (IntKind.i64.wrap (IntKind.i64.wrap (u - 1) * IntKind.i64.wrap (u - 1)) < b * 16777216) = true) := by
    by_cases ha : a < 0
    · left; unfold isr; rw [hx, cond_true, if_pos ha]; rfl
    · right
      have g := isr_range (a := a) (b := b) (by omega) (by omega) (by omega)
      have s1 := sqt_spec (n := a * 16777216) (by omega) (by omega)
      have s2 := sqc_spec (n := b * 16777216) (by omega) (by omega)
      have p1 := mul_bnd (x := sqt (a * 16777216) + 1) (y := sqt (a * 16777216) + 1) (A := 134217729) (B := 134217729) (by omega) (by omega) (by omega) (by omega) (by omega) (by omega)
      have p2 := mul_bnd (x := sqc (b * 16777216) - 1) (y := sqc (b * 16777216) - 1) (A := 134217729) (B := 134217729) (by omega) (by omega) (by omega) (by omega) (by omega) (by omega)
      refine ⟨sqt (a * 16777216), sqc (b * 16777216), by unfold isr; rw [hx, cond_true, if_neg ha], ?_, ?_⟩
      · rw [w64 (n := sqt (a * 16777216) + 1) (by omega) (by omega), w64 (by omega) (by omega)]
        exact decide_eq_true (by omega)
      · by_cases hu : sqc (b * 16777216) = 0
        · exact Or.inl hu
        · right
          rw [w64 (n := sqc (b * 16777216) - 1) (by omega) (by omega), w64 (by omega) (by omega)]
          exact decide_eq_true (s2.2.2.1 (by omega))
  have fin : (bif (isr a b).2.2 != 0 then true else bif decide (IntKind.i64.wrap (IntKind.i64.wrap ((isr a b).1 + 1) * IntKind.i64.wrap ((isr a b).1 + 1)) > a * 16777216) then bif (isr a b).2.1 == 0 then true else decide (IntKind.i64.wrap (IntKind.i64.wrap ((isr a b).2.1 - 1) * IntKind.i64.wrap ((isr a b).2.1 - 1)) < b * 16777216) else false) = true := by
    rcases Rt with h | ⟨l, u, h, h1, h2⟩
    · rw [h]; rfl
    · rw [h]
      simp only [bne_self_eq_false, cond_false, h1, cond_true]
      rcases h2 with h2 | h2
      · subst h2; rfl
      · rw [h2]; cases u == 0 <;> rfl
  simp only [w1, w2, w3, w4, w5, w6, w7, w8, w9, w10, Bool.not_true, cond_false]
  rcases A with hA | hA <;> rcases Mu with hM | ⟨l, u, hM, hM1, hM2⟩ <;> rcases Sq with hS | ⟨l', u', hS, hS1, hS2⟩ <;> simp only [*, beq_self_eq_true, Bool.and_self, Bool.not_true, cond_true, cond_false]
theorem culetlaw27_IntervalLeast.calls (a0_0 : Int) (a0_1 : Int) (a1_0 : Int) (a1_1 : Int) (h : culetlaw27_IntervalLeast a0_0 a0_1 a1_0 a1_1 = true) (w : World) (ht : TabOk w) : Calls Tryd.prog 5 ⟨[.agg ⟨[.int .i64 a0_0, .int .i64 a0_1]⟩, .agg ⟨[.int .i64 a1_0, .int .i64 a1_1]⟩]⟩ w fun e w' => e = .returned (.bool true) ∧ Below w.heap.size w w' := by
  refine calls_run (E := ⟨[(9, culetlaw27_awake.sp), (10, interval_Add.sp interval_Add), (14, interval_Mul.sp interval_Mul), (20, culetref27_Valid.sp culetref27_Valid), (25, culetlaw27_near.sp), (26, interval_Square.sp interval_Square), (27, interval_Sqrt.sp interval_Sqrt)], []⟩) (L := []) ⟨(specs_cons culetlaw27_awake.ok (specs_cons interval_Add.ok (specs_cons interval_Mul.ok (specs_cons culetref27_Valid.ok (specs_cons culetlaw27_near.ok (specs_cons interval_Square.ok (specs_cons interval_Sqrt.ok specs_nil))))))), inl_nil, mixed_ok⟩ 40 Tryd.func5 (by decide) rfl no_loops (vs := [.agg ⟨[.int .i64 a0_0, .int .i64 a0_1]⟩, .agg ⟨[.int .i64 a1_0, .int .i64 a1_1]⟩]) (v := .bool true) ?_ (by simp [okV, Nat.blt]) (clo_spec 8 _ rfl) w ht
  refine (culetlaw27_IntervalLeast.run interval_Add interval_Mul culetref27_Valid interval_Square interval_Sqrt a0_0 a0_1 a1_0 a1_1).trans ?_
  rw [culetlaw27_IntervalLeast.nat]
  have h4 : culetlaw27_IntervalLeast.K interval_Add interval_Mul culetref27_Valid interval_Square interval_Sqrt a0_0 a0_1 a1_0 a1_1 id = true := h
  rw [h4]

end Go.Proofs.YtpghmdjjkpjnfaaDoor.G
