/- The functions, their runs and their contracts. WRITTEN BY gen.py of this repo. -/
import Derived.Test.YtpghmdjjkpjnfaaDoorS
import Derived.Test.YtpghmdjjkpjnfaaDoorM
import Derived.Test.YtpghmdjjkpjnfaaDoorIv
import Derived.Test.YtpghmdjjkpjnfaaDoorSq
import Derived.Test.YtpghmdjjkpjnfaaDoorExt
import Derived.Test.YtpghmdjjkpjnfaaDoorNear27
import Derived.Test.YtpghmdjjkpjnfaaDoorRoot
import Derived.Test.YtpghmdjjkpjnfaaDoorXwk27
namespace Go.Proofs.YtpghmdjjkpjnfaaDoor.G
open Go Go.Proofs Go.RowKit RX
set_option linter.unusedVariables false
set_option linter.unusedSimpArgs false
/-! ### culet/culetref27.Valid (20) -/
def culetref27_Valid.K {R : Type} (a0_0 : Int) (a0_1 : Int) (k : (Bool) → R) : R :=
  bif decide (-1073741824 ≤ a0_0) then
    bif decide (a0_0 ≤ a0_1) then
      k (decide (a0_1 ≤ 1073741824))
    else
      k (false)
  else
    k (false)
set_option maxRecDepth 100000 in
theorem culetref27_Valid.run (a0_0 : Int) (a0_1 : Int) : xfn Tryd.prog ⟨[], []⟩ [] 40 Tryd.f20 [.agg ⟨[.int .i64 a0_0, .int .i64 a0_1]⟩] [] = culetref27_Valid.K a0_0 a0_1 (fun r => some (.bool r, [])) := by kernel_rfl
def culetref27_Valid (a0_0 : Int) (a0_1 : Int) : Bool := culetref27_Valid.K a0_0 a0_1 id
theorem culetref27_Valid.nat {R : Type} (a0_0 : Int) (a0_1 : Int) (k : (Bool) → R) : culetref27_Valid.K a0_0 a0_1 k = k (culetref27_Valid.K a0_0 a0_1 id) := by
  simp only [culetref27_Valid.K, acond k, id_eq]
theorem culetref27_Valid.eq (a b : Int) : culetref27_Valid a b = V a b := by
  simp only [culetref27_Valid, culetref27_Valid.K, id_eq, V]
  by_cases h1 : -1073741824 ≤ a <;> by_cases h2 : a ≤ b <;> by_cases h3 : b ≤ 1073741824 <;> simp [h1, h2, h3]
theorem culetref27_Valid.ok : SOK Tryd.prog 20 (culetref27_Valid.sp culetref27_Valid) := by
  refine sok_of (E := ⟨[], []⟩) (L := []) ⟨specs_nil, inl_nil, mixed_ok⟩ 40 Tryd.func20 (by decide) rfl no_loops fun vs bl v bl' h => ?_
  unfold culetref27_Valid.sp at h
  split at h
  · rename_i a0_0 a0_1
    simp only [Option.some.injEq, Prod.mk.injEq, true_and] at h
    obtain ⟨rfl, rfl⟩ := h
    refine ⟨?_, by simp [okV, Nat.blt], clo_spec 8 _ (by kernel_rfl), told_blk (by kernel_rfl)⟩
    refine (culetref27_Valid.run a0_0 a0_1).trans ?_
    refine (culetref27_Valid.nat a0_0 a0_1 _).trans ?_
    kernel_rfl
  · cases h

/-! ### culet/interval.floor (41) -/
def interval_floor.K {R : Type} (a0 : Int) (a1 : Int) (k : (Int) → Option R) : Option R :=
  bif a1 != 0 then
    bif a1 != 0 then
      bif a0.tmod a1 != 0 then
        bif decide (a0 < 0) then
          k (IntKind.i64.wrap (IntKind.i64.wrap (a0.tdiv a1) - 1))
        else
          k (IntKind.i64.wrap (a0.tdiv a1))
      else
        k (IntKind.i64.wrap (a0.tdiv a1))
    else
      none
  else
    none
set_option maxRecDepth 100000 in
theorem interval_floor.run (a0 : Int) (a1 : Int) : xfn Tryd.prog ⟨[], []⟩ [] 40 Tryd.f41 [.int .i64 a0, .int .i64 a1] [] = interval_floor.K a0 a1 (fun r => some (.int .i64 r, [])) := by kernel_rfl
def interval_floor.o (a0 : Int) (a1 : Int) : Option (Int) := interval_floor.K a0 a1 some
def interval_floor.pre (a0 : Int) (a1 : Int) : Bool := (interval_floor.o a0 a1).isSome
def interval_floor (a0 : Int) (a1 : Int) : Int := (interval_floor.o a0 a1).getD default
theorem interval_floor.nat {R : Type} (a0 : Int) (a1 : Int) (k : (Int) → Option R) : interval_floor.K a0 a1 k = (interval_floor.K a0 a1 some).bind k := by
  simp only [interval_floor.K, bcond, Option.bind_some, Option.bind_none]
theorem interval_floor.eq {a b : Int} (hb : 0 < b) (h1 : -4611686018427387904 ≤ a) (h2 : a ≤ 4611686018427387904) : interval_floor a b = a / b := by
  have hb0 : (b != 0) = true := by simp; omega
  have hq := tdiv_bnd hb h1 h2
  simp only [interval_floor, interval_floor.o, interval_floor.K, hb0, cond_true]
  have hd : a.tdiv b = a / b + if 0 ≤ a ∨ b ∣ a then 0 else b.sign := Int.tdiv_eq_ediv
  rw [Int.sign_eq_one_of_pos hb] at hd
  by_cases hm : a.tmod b = 0
  · have hv : b ∣ a := Int.dvd_of_tmod_eq_zero hm
    simp only [hv, or_true, if_true, Int.add_zero] at hd
    simp only [hm, bne_self_eq_false, cond_false, Option.getD_some, hd]
    exact w64 (by omega) (by omega)
  · have hv : ¬ b ∣ a := fun h => hm (Int.tmod_eq_zero_of_dvd h)
    have hm' : (a.tmod b != 0) = true := by simp [hm]
    simp only [hm', cond_true]
    by_cases ha : a < 0
    · simp only [hv, or_false, show ¬ 0 ≤ a from by omega, if_false] at hd
      simp only [ha, decide_true, cond_true, Option.getD_some, hd]
      rw [w64 (n := a / b + 1) (by omega) (by omega), Int.add_sub_cancel, w64 (by omega) (by omega)]
    · simp only [show 0 ≤ a from by omega, true_or, if_true, Int.add_zero] at hd
      simp only [ha, decide_false, cond_false, Option.getD_some, hd]
      exact w64 (by omega) (by omega)
theorem interval_floor.ok : SOK Tryd.prog 41 (interval_floor.sp interval_floor) := by
  refine sok_of (E := ⟨[], []⟩) (L := []) ⟨specs_nil, inl_nil, mixed_ok⟩ 40 Tryd.func41 (by decide) rfl no_loops fun vs bl v bl' h => ?_
  unfold interval_floor.sp at h
  split at h
  · rename_i a0 a1
    simp only [Option.some.injEq, Prod.mk.injEq] at h
    obtain ⟨hp, rfl, rfl⟩ := h
    have hr := interval_floor.run a0 a1
    rw [interval_floor.nat] at hr
    obtain ⟨r, h2⟩ := Option.isSome_iff_exists.1 (by simp [interval_floor.o, interval_floor.K, isSome_cond, bool_cond_true, hp] : (interval_floor.o a0 a1).isSome = true)
    have h3 : interval_floor a0 a1 = r := by unfold interval_floor; rw [h2]; rfl
    have h4 : interval_floor.K a0 a1 some = some r := h2
    rw [h4, Option.bind_some] at hr
    rw [h3]
    exact ⟨hr, by simp [okV, Nat.blt], clo_spec 8 _ (by kernel_rfl), told_blk (by kernel_rfl)⟩
  · cases h

/-! ### culet/interval.Valid (45) -/
def interval_Valid.K {R : Type} (a0_0 : Int) (a0_1 : Int) (k : (Bool) → R) : R :=
  bif decide (a0_0 ≤ a0_1) then
    bif decide (a0_0 ≥ -1073741824) then
      k (decide (a0_1 ≤ 1073741824))
    else
      k (false)
  else
    k (false)
set_option maxRecDepth 100000 in
theorem interval_Valid.run (a0_0 : Int) (a0_1 : Int) : xfn Tryd.prog ⟨[], []⟩ [] 40 Tryd.f45 [.agg ⟨[.int .i64 a0_0, .int .i64 a0_1]⟩] [] = interval_Valid.K a0_0 a0_1 (fun r => some (.bool r, [])) := by kernel_rfl
def interval_Valid (a0_0 : Int) (a0_1 : Int) : Bool := interval_Valid.K a0_0 a0_1 id
theorem interval_Valid.nat {R : Type} (a0_0 : Int) (a0_1 : Int) (k : (Bool) → R) : interval_Valid.K a0_0 a0_1 k = k (interval_Valid.K a0_0 a0_1 id) := by
  simp only [interval_Valid.K, acond k, id_eq]
theorem interval_Valid.eq (a b : Int) : interval_Valid a b = V a b := by
  simp only [interval_Valid, interval_Valid.K, id_eq, V]
  by_cases h1 : a ≤ b <;> by_cases h2 : a ≥ -1073741824 <;> by_cases h3 : b ≤ 1073741824 <;> simp [h1, h2, h3] <;> omega
theorem interval_Valid.ok : SOK Tryd.prog 45 (interval_Valid.sp interval_Valid) := by
  refine sok_of (E := ⟨[], []⟩) (L := []) ⟨specs_nil, inl_nil, mixed_ok⟩ 40 Tryd.func45 (by decide) rfl no_loops fun vs bl v bl' h => ?_
  unfold interval_Valid.sp at h
  split at h
  · rename_i a0_0 a0_1
    simp only [Option.some.injEq, Prod.mk.injEq, true_and] at h
    obtain ⟨rfl, rfl⟩ := h
    refine ⟨?_, by simp [okV, Nat.blt], clo_spec 8 _ (by kernel_rfl), told_blk (by kernel_rfl)⟩
    refine (interval_Valid.run a0_0 a0_1).trans ?_
    refine (interval_Valid.nat a0_0 a0_1 _).trans ?_
    kernel_rfl
  · cases h

/-! ### culet/interval.Split (21) -/
def interval_Split.K {R : Type} (f_interval_floor : Int → Int → (Int)) (f_interval_Valid : Int → Int → (Bool)) (a0_0 : Int) (a0_1 : Int) (k : Int × Int × Int × Int × Int → R) : R :=
  let t0 := f_interval_Valid a0_0 a0_1
  bif !t0 then
    k (0, 0, 0, 0, 1)
  else
    bif decide (IntKind.i64.wrap (a0_1 - a0_0) < 2) then
      k (0, 0, 0, 0, 7)
    else
      let t1 := f_interval_floor (IntKind.i64.wrap (a0_0 + a0_1)) 2
      k (a0_0, t1, t1, a0_1, 0)
set_option maxRecDepth 100000 in
theorem interval_Split.run (f_interval_floor : Int → Int → (Int)) (f_interval_Valid : Int → Int → (Bool)) (a0_0 : Int) (a0_1 : Int) : xfn Tryd.prog ⟨[(41, interval_floor.sp f_interval_floor), (45, interval_Valid.sp f_interval_Valid)], []⟩ [] 40 Tryd.f21 [.agg ⟨[.int .i64 a0_0, .int .i64 a0_1]⟩] [] = interval_Split.K f_interval_floor f_interval_Valid a0_0 a0_1 (fun r => some (.tuple ⟨[.agg ⟨[.int .i64 r.1, .int .i64 r.2.1]⟩, .agg ⟨[.int .i64 r.2.2.1, .int .i64 r.2.2.2.1]⟩, .int .i64 r.2.2.2.2]⟩, [])) := by kernel_rfl
def interval_Split (a0_0 : Int) (a0_1 : Int) : Int × Int × Int × Int × Int := interval_Split.K interval_floor interval_Valid a0_0 a0_1 id
theorem interval_Split.nat {R : Type} (f_interval_floor : Int → Int → (Int)) (f_interval_Valid : Int → Int → (Bool)) (a0_0 : Int) (a0_1 : Int) (k : Int × Int × Int × Int × Int → R) : interval_Split.K f_interval_floor f_interval_Valid a0_0 a0_1 k = k (interval_Split.K f_interval_floor f_interval_Valid a0_0 a0_1 id) := by
  simp only [interval_Split.K, acond k, id_eq]
def spl (a b : Int) : Int × Int × Int × Int × Int := bif V a b then (if b - a < 2 then (0, 0, 0, 0, 7) else (a, (a + b) / 2, (a + b) / 2, b, 0)) else (0, 0, 0, 0, 1)
theorem interval_Split.eq (a b : Int) : interval_Split a b = spl a b := by
  simp only [interval_Split, interval_Split.K, id_eq, interval_Valid.eq, spl]
  cases hv : V a b with
  | false => rfl
  | true =>
    have := V_iff.1 hv
    rw [w64 (n := b - a) (by omega) (by omega), w64 (n := a + b) (by omega) (by omega), interval_floor.eq (by omega) (by omega) (by omega)]
    by_cases h : b - a < 2
    · simp only [decide_eq_true h, if_pos h, Bool.not_true, cond_false, cond_true]
    · simp only [decide_eq_false h, if_neg h, Bool.not_true, cond_false, cond_true]
theorem interval_Split.ok : SOK Tryd.prog 21 (interval_Split.sp interval_Split) := by
  refine sok_of (E := ⟨[(41, interval_floor.sp interval_floor), (45, interval_Valid.sp interval_Valid)], []⟩) (L := []) ⟨(specs_cons interval_floor.ok (specs_cons interval_Valid.ok specs_nil)), inl_nil, mixed_ok⟩ 40 Tryd.func21 (by decide) rfl no_loops fun vs bl v bl' h => ?_
  unfold interval_Split.sp at h
  split at h
  · rename_i a0_0 a0_1
    simp only [Option.some.injEq, Prod.mk.injEq, true_and] at h
    obtain ⟨rfl, rfl⟩ := h
    refine ⟨?_, by simp [okV, Nat.blt], clo_spec 8 _ (by kernel_rfl), told_blk (by kernel_rfl)⟩
    refine (interval_Split.run interval_floor interval_Valid a0_0 a0_1).trans ?_
    refine (interval_Split.nat interval_floor interval_Valid a0_0 a0_1 _).trans ?_
    kernel_rfl
  · cases h

/-! ### culet/interval.Inside (22) -/
def interval_Inside.K {R : Type} (f_interval_Valid : Int → Int → (Bool)) (a0_0 : Int) (a0_1 : Int) (a1_0 : Int) (a1_1 : Int) (k : (Bool) → R) : R :=
  let t0 := f_interval_Valid a0_0 a0_1
  bif !t0 then
    k (false)
  else
    let t1 := f_interval_Valid a1_0 a1_1
    bif !t1 then
      k (false)
    else
      bif decide (a0_0 ≥ a1_0) then
        k (decide (a0_1 ≤ a1_1))
      else
        k (false)
set_option maxRecDepth 100000 in
theorem interval_Inside.run (f_interval_Valid : Int → Int → (Bool)) (a0_0 : Int) (a0_1 : Int) (a1_0 : Int) (a1_1 : Int) : xfn Tryd.prog ⟨[(45, interval_Valid.sp f_interval_Valid)], [(36, Tryd.f36)]⟩ [] 40 Tryd.f22 [.agg ⟨[.int .i64 a0_0, .int .i64 a0_1]⟩, .agg ⟨[.int .i64 a1_0, .int .i64 a1_1]⟩] [] = interval_Inside.K f_interval_Valid a0_0 a0_1 a1_0 a1_1 (fun r => some (.bool r, [])) := by kernel_rfl
def interval_Inside (a0_0 : Int) (a0_1 : Int) (a1_0 : Int) (a1_1 : Int) : Bool := interval_Inside.K interval_Valid a0_0 a0_1 a1_0 a1_1 id
theorem interval_Inside.nat {R : Type} (f_interval_Valid : Int → Int → (Bool)) (a0_0 : Int) (a0_1 : Int) (a1_0 : Int) (a1_1 : Int) (k : (Bool) → R) : interval_Inside.K f_interval_Valid a0_0 a0_1 a1_0 a1_1 k = k (interval_Inside.K f_interval_Valid a0_0 a0_1 a1_0 a1_1 id) := by
  simp only [interval_Inside.K, acond k, id_eq]
def inb (a b c d : Int) : Bool := V a b && (V c d && (decide (c ≤ a) && decide (b ≤ d)))
theorem inb_of {a b c d : Int} (h1 : V a b = true) (h2 : V c d = true) (h3 : c ≤ a) (h4 : b ≤ d) : inb a b c d = true := by simp only [inb, h1, h2, h3, h4, decide_true, Bool.and_self]
theorem interval_Inside.eq (a b c d : Int) : interval_Inside a b c d = inb a b c d := by
  simp only [interval_Inside, interval_Inside.K, id_eq, interval_Valid.eq, inb]
  cases V a b <;> cases V c d <;> by_cases h1 : c ≤ a <;> simp [h1]
theorem interval_Inside.ok : SOK Tryd.prog 22 (interval_Inside.sp interval_Inside) := by
  refine sok_of (E := ⟨[(45, interval_Valid.sp interval_Valid)], [(36, Tryd.f36)]⟩) (L := []) ⟨(specs_cons interval_Valid.ok specs_nil), (inl_cons ⟨Tryd.func36, by decide, rfl⟩ inl_nil), mixed_ok⟩ 40 Tryd.func22 (by decide) rfl no_loops fun vs bl v bl' h => ?_
  unfold interval_Inside.sp at h
  split at h
  · rename_i a0_0 a0_1 a1_0 a1_1
    simp only [Option.some.injEq, Prod.mk.injEq, true_and] at h
    obtain ⟨rfl, rfl⟩ := h
    refine ⟨?_, by simp [okV, Nat.blt], clo_spec 8 _ (by kernel_rfl), told_blk (by kernel_rfl)⟩
    refine (interval_Inside.run interval_Valid a0_0 a0_1 a1_0 a1_1).trans ?_
    refine (interval_Inside.nat interval_Valid a0_0 a0_1 a1_0 a1_1 _).trans ?_
    kernel_rfl
  · cases h

/-! ### culet/interval.Hull (23) -/
def interval_Hull.K {R : Type} (f_interval_Valid : Int → Int → (Bool)) (a0_0 : Int) (a0_1 : Int) (a1_0 : Int) (a1_1 : Int) (k : Int × Int × Int → R) : R :=
  let t0 := f_interval_Valid a0_0 a0_1
  bif !t0 then
    k (0, 0, 1)
  else
    let t1 := f_interval_Valid a1_0 a1_1
    bif !t1 then
      k (0, 0, 1)
    else
      k (if a1_0 < a0_0 then a1_0 else a0_0, if a1_1 > a0_1 then a1_1 else a0_1, 0)
set_option maxRecDepth 100000 in
theorem interval_Hull.run (f_interval_Valid : Int → Int → (Bool)) (a0_0 : Int) (a0_1 : Int) (a1_0 : Int) (a1_1 : Int) : xfn Tryd.prog ⟨[(45, interval_Valid.sp f_interval_Valid)], [(36, Tryd.f36)]⟩ [] 40 Tryd.f23 [.agg ⟨[.int .i64 a0_0, .int .i64 a0_1]⟩, .agg ⟨[.int .i64 a1_0, .int .i64 a1_1]⟩] [] = interval_Hull.K f_interval_Valid a0_0 a0_1 a1_0 a1_1 (fun r => some (.tuple ⟨[.agg ⟨[.int .i64 r.1, .int .i64 r.2.1]⟩, .int .i64 r.2.2]⟩, [])) := by kernel_rfl
def interval_Hull (a0_0 : Int) (a0_1 : Int) (a1_0 : Int) (a1_1 : Int) : Int × Int × Int := interval_Hull.K interval_Valid a0_0 a0_1 a1_0 a1_1 id
theorem interval_Hull.nat {R : Type} (f_interval_Valid : Int → Int → (Bool)) (a0_0 : Int) (a0_1 : Int) (a1_0 : Int) (a1_1 : Int) (k : Int × Int × Int → R) : interval_Hull.K f_interval_Valid a0_0 a0_1 a1_0 a1_1 k = k (interval_Hull.K f_interval_Valid a0_0 a0_1 a1_0 a1_1 id) := by
  simp only [interval_Hull.K, acond k, id_eq]
def hul (a b c d : Int) : Int × Int × Int := bif V a b && V c d then (min a c, max b d, 0) else (0, 0, 1)
def mee (a b c d : Int) : Int × Int × Int := bif V a b && V c d then (if max a c > min b d then (0, 0, 7) else (max a c, min b d, 0)) else (0, 0, 1)
theorem interval_Hull.eq (a b c d : Int) : interval_Hull a b c d = hul a b c d := by
  simp only [interval_Hull, interval_Hull.K, id_eq, interval_Valid.eq, hul, mnE, mxE]
  cases V a b <;> cases V c d <;> simp
theorem interval_Hull.ok : SOK Tryd.prog 23 (interval_Hull.sp interval_Hull) := by
  refine sok_of (E := ⟨[(45, interval_Valid.sp interval_Valid)], [(36, Tryd.f36)]⟩) (L := []) ⟨(specs_cons interval_Valid.ok specs_nil), (inl_cons ⟨Tryd.func36, by decide, rfl⟩ inl_nil), mixed_ok⟩ 40 Tryd.func23 (by decide) rfl no_loops fun vs bl v bl' h => ?_
  unfold interval_Hull.sp at h
  split at h
  · rename_i a0_0 a0_1 a1_0 a1_1
    simp only [Option.some.injEq, Prod.mk.injEq, true_and] at h
    obtain ⟨rfl, rfl⟩ := h
    refine ⟨?_, by simp [okV, Nat.blt], clo_spec 8 _ (by kernel_rfl), told_blk (by kernel_rfl)⟩
    refine (interval_Hull.run interval_Valid a0_0 a0_1 a1_0 a1_1).trans ?_
    refine (interval_Hull.nat interval_Valid a0_0 a0_1 a1_0 a1_1 _).trans ?_
    kernel_rfl
  · cases h

/-! ### culet/interval.Meet (24) -/
def interval_Meet.K {R : Type} (f_interval_Valid : Int → Int → (Bool)) (a0_0 : Int) (a0_1 : Int) (a1_0 : Int) (a1_1 : Int) (k : Int × Int × Int → R) : R :=
  let t0 := f_interval_Valid a0_0 a0_1
  bif !t0 then
    k (0, 0, 1)
  else
    let t1 := f_interval_Valid a1_0 a1_1
    bif !t1 then
      k (0, 0, 1)
    else
      bif decide ((if a1_0 > a0_0 then a1_0 else a0_0) > if a1_1 < a0_1 then a1_1 else a0_1) then
        k (0, 0, 7)
      else
        k (if a1_0 > a0_0 then a1_0 else a0_0, if a1_1 < a0_1 then a1_1 else a0_1, 0)
set_option maxRecDepth 100000 in
theorem interval_Meet.run (f_interval_Valid : Int → Int → (Bool)) (a0_0 : Int) (a0_1 : Int) (a1_0 : Int) (a1_1 : Int) : xfn Tryd.prog ⟨[(45, interval_Valid.sp f_interval_Valid)], [(36, Tryd.f36)]⟩ [] 40 Tryd.f24 [.agg ⟨[.int .i64 a0_0, .int .i64 a0_1]⟩, .agg ⟨[.int .i64 a1_0, .int .i64 a1_1]⟩] [] = interval_Meet.K f_interval_Valid a0_0 a0_1 a1_0 a1_1 (fun r => some (.tuple ⟨[.agg ⟨[.int .i64 r.1, .int .i64 r.2.1]⟩, .int .i64 r.2.2]⟩, [])) := by kernel_rfl
def interval_Meet (a0_0 : Int) (a0_1 : Int) (a1_0 : Int) (a1_1 : Int) : Int × Int × Int := interval_Meet.K interval_Valid a0_0 a0_1 a1_0 a1_1 id
theorem interval_Meet.nat {R : Type} (f_interval_Valid : Int → Int → (Bool)) (a0_0 : Int) (a0_1 : Int) (a1_0 : Int) (a1_1 : Int) (k : Int × Int × Int → R) : interval_Meet.K f_interval_Valid a0_0 a0_1 a1_0 a1_1 k = k (interval_Meet.K f_interval_Valid a0_0 a0_1 a1_0 a1_1 id) := by
  simp only [interval_Meet.K, acond k, id_eq]
theorem interval_Meet.eq (a b c d : Int) : interval_Meet a b c d = mee a b c d := by
  simp only [interval_Meet, interval_Meet.K, id_eq, interval_Valid.eq, mee, mnE, mxE]
  cases V a b <;> cases V c d <;> by_cases h : max a c > min b d <;> simp [h]
theorem interval_Meet.ok : SOK Tryd.prog 24 (interval_Meet.sp interval_Meet) := by
  refine sok_of (E := ⟨[(45, interval_Valid.sp interval_Valid)], [(36, Tryd.f36)]⟩) (L := []) ⟨(specs_cons interval_Valid.ok specs_nil), (inl_cons ⟨Tryd.func36, by decide, rfl⟩ inl_nil), mixed_ok⟩ 40 Tryd.func24 (by decide) rfl no_loops fun vs bl v bl' h => ?_
  unfold interval_Meet.sp at h
  split at h
  · rename_i a0_0 a0_1 a1_0 a1_1
    simp only [Option.some.injEq, Prod.mk.injEq, true_and] at h
    obtain ⟨rfl, rfl⟩ := h
    refine ⟨?_, by simp [okV, Nat.blt], clo_spec 8 _ (by kernel_rfl), told_blk (by kernel_rfl)⟩
    refine (interval_Meet.run interval_Valid a0_0 a0_1 a1_0 a1_1).trans ?_
    refine (interval_Meet.nat interval_Valid a0_0 a0_1 a1_0 a1_1 _).trans ?_
    kernel_rfl
  · cases h

/-! ### culet/culetlaw27.IntervalSets (4) -/
def culetlaw27_IntervalSets.K {R : Type} (f_culetref27_Valid : Int → Int → (Bool)) (f_interval_Split : Int → Int → (Int × Int × Int × Int × Int)) (f_interval_Inside : Int → Int → Int → Int → (Bool)) (f_interval_Hull : Int → Int → Int → Int → (Int × Int × Int)) (f_interval_Meet : Int → Int → Int → Int → (Int × Int × Int)) (a0_0 : Int) (a0_1 : Int) (a1_0 : Int) (a1_1 : Int) (k : (Bool) → R) : R :=
  let t0 := f_culetref27_Valid a0_0 a0_1
  let t1 := f_culetref27_Valid a1_0 a1_1
  bif bif !t0 then true else !t1 then
    k (true)
  else
    let t2 := f_interval_Split a0_0 a0_1
    let t3 := f_interval_Inside t2.fst t2.snd.fst a0_0 a0_1
    let t4 := f_interval_Inside t2.snd.snd.fst t2.snd.snd.snd.fst a0_0 a0_1
    bif bif bif t2.snd.snd.snd.snd == 0 then bif t2.fst != a0_0 then true else bif t2.snd.snd.snd.fst != a0_1 then true else bif t2.snd.fst != t2.snd.snd.fst then true else bif !t3 then true else bif !t4 then true else bif decide (IntKind.i64.wrap (t2.snd.fst - t2.fst) > IntKind.i64.wrap (t2.snd.snd.snd.fst - t2.snd.snd.fst)) then true else decide (IntKind.i64.wrap (t2.snd.snd.snd.fst - t2.snd.snd.fst) > IntKind.i64.wrap (IntKind.i64.wrap (t2.snd.fst - t2.fst) + 1)) else false then true else bif t2.snd.snd.snd.snd != 0 then decide (IntKind.i64.wrap (a0_1 - a0_0) > 1) else false then
      k (false)
    else
      let t5 := f_interval_Hull a0_0 a0_1 a1_0 a1_1
      let t6 := f_interval_Inside a0_0 a0_1 t5.fst t5.snd.fst
      let t7 := f_interval_Inside a1_0 a1_1 t5.fst t5.snd.fst
      bif bif bif bif bif t5.snd.snd != 0 then true else !t6 then true else !t7 then true else bif t5.fst != a0_0 then t5.fst != a1_0 else false then true else bif t5.snd.fst != a0_1 then t5.snd.fst != a1_1 else false then
        k (false)
      else
        let t8 := f_interval_Meet a0_0 a0_1 a1_0 a1_1
        bif t8.snd.snd != 0 then
          k (bif t8.snd.snd == 7 then bif decide (a0_1 < a1_0) then true else decide (a1_1 < a0_0) else false)
        else
          let t9 := f_interval_Inside t8.fst t8.snd.fst a0_0 a0_1
          let t10 := f_interval_Inside t8.fst t8.snd.fst a1_0 a1_1
          k (bif bif bif t9 then t10 else false then bif t8.fst == a0_0 then true else t8.fst == a1_0 else false then bif t8.snd.fst == a0_1 then true else t8.snd.fst == a1_1 else false)
set_option maxRecDepth 100000 in
theorem culetlaw27_IntervalSets.run (f_culetref27_Valid : Int → Int → (Bool)) (f_interval_Split : Int → Int → (Int × Int × Int × Int × Int)) (f_interval_Inside : Int → Int → Int → Int → (Bool)) (f_interval_Hull : Int → Int → Int → Int → (Int × Int × Int)) (f_interval_Meet : Int → Int → Int → Int → (Int × Int × Int)) (a0_0 : Int) (a0_1 : Int) (a1_0 : Int) (a1_1 : Int) : xfn Tryd.prog ⟨[(9, culetlaw27_awake.sp), (9, culetlaw27_awake.sp), (20, culetref27_Valid.sp f_culetref27_Valid), (21, interval_Split.sp f_interval_Split), (22, interval_Inside.sp f_interval_Inside), (23, interval_Hull.sp f_interval_Hull), (24, interval_Meet.sp f_interval_Meet)], []⟩ [] 40 Tryd.f4 [.agg ⟨[.int .i64 a0_0, .int .i64 a0_1]⟩, .agg ⟨[.int .i64 a1_0, .int .i64 a1_1]⟩] [] = culetlaw27_IntervalSets.K f_culetref27_Valid f_interval_Split f_interval_Inside f_interval_Hull f_interval_Meet a0_0 a0_1 a1_0 a1_1 (fun r => some (.bool r, [])) := by kernel_rfl
def culetlaw27_IntervalSets (a0_0 : Int) (a0_1 : Int) (a1_0 : Int) (a1_1 : Int) : Bool := culetlaw27_IntervalSets.K culetref27_Valid interval_Split interval_Inside interval_Hull interval_Meet a0_0 a0_1 a1_0 a1_1 id
theorem culetlaw27_IntervalSets.nat {R : Type} (f_culetref27_Valid : Int → Int → (Bool)) (f_interval_Split : Int → Int → (Int × Int × Int × Int × Int)) (f_interval_Inside : Int → Int → Int → Int → (Bool)) (f_interval_Hull : Int → Int → Int → Int → (Int × Int × Int)) (f_interval_Meet : Int → Int → Int → Int → (Int × Int × Int)) (a0_0 : Int) (a0_1 : Int) (a1_0 : Int) (a1_1 : Int) (k : (Bool) → R) : culetlaw27_IntervalSets.K f_culetref27_Valid f_interval_Split f_interval_Inside f_interval_Hull f_interval_Meet a0_0 a0_1 a1_0 a1_1 k = k (culetlaw27_IntervalSets.K f_culetref27_Valid f_interval_Split f_interval_Inside f_interval_Hull f_interval_Meet a0_0 a0_1 a1_0 a1_1 id) := by
  simp only [culetlaw27_IntervalSets.K, acond k, id_eq]
theorem cond_same {α : Type} (b : Bool) (x : α) : (bif b then x else x) = x := by cases b <;> rfl
theorem IntervalSets.law (a b c d : Int) : culetlaw27_IntervalSets a b c d = true := by
  simp only [culetlaw27_IntervalSets, culetlaw27_IntervalSets.K, id_eq, culetref27_Valid.eq, interval_Split.eq, interval_Inside.eq, interval_Hull.eq, interval_Meet.eq]
  cases hx : V a b with
  | false => rfl
  | true =>
  cases hy : V c d with
  | false => rfl
  | true =>
  have vx := V_iff.1 hx
  have vy := V_iff.1 hy
  have H : ∃ l u, hul a b c d = (l, u, 0) ∧ inb a b l u = true ∧ inb c d l u = true ∧ (l = a ∨ l = c) ∧ (u = b ∨ u = d) := by
    have hv : V (min a c) (max b d) = true := V_iff.2 (by omega)
    exact ⟨min a c, max b d, by unfold hul; rw [hx, hy]; rfl, inb_of hx hv (by omega) (by omega), inb_of hy hv (by omega) (by omega), by omega, by omega⟩
  have M : (mee a b c d = (0, 0, 7) ∧ (bif decide (b < c) then true else decide (d < a)) = true) ∨ ∃ l u, mee a b c d = (l, u, 0) ∧ inb l u a b = true ∧ inb l u c d = true ∧ (l = a ∨ l = c) ∧ (u = b ∨ u = d) := by
    by_cases hg : max a c > min b d
    · left
      refine ⟨by unfold mee; rw [hx, hy]; simp [hg], ?_⟩
      by_cases h1 : b < c
      · simp [h1]
      · have : d < a := by omega
        simp [this]
    · right
      have hv : V (max a c) (min b d) = true := V_iff.2 (by omega)
      exact ⟨max a c, min b d, by unfold mee; rw [hx, hy]; simp [hg], inb_of hv hx (by omega) (by omega), inb_of hv hy (by omega) (by omega), by omega, by omega⟩
  have S : (spl a b = (0, 0, 0, 0, 7) ∧ decide (IntKind.i64.wrap (b - a) > 1) = false) ∨ ∃ m, spl a b = (a, m, m, b, 0) ∧ inb a m a b = true ∧ inb m b a b = true ∧ decide (IntKind.i64.wrap (m - a) > IntKind.i64.wrap (b - m)) = false ∧ decide (IntKind.i64.wrap (b - m) > IntKind.i64.wrap (IntKind.i64.wrap (m - a) + 1)) = false := by
    by_cases h : b - a < 2
    · left
      refine ⟨by unfold spl; rw [hx]; simp [h], ?_⟩
      rw [w64 (by omega) (by omega)]
      exact decide_eq_false (by omega)
    · right
      refine ⟨(a + b) / 2, by unfold spl; rw [hx]; simp [h], inb_of (V_iff.2 (by omega)) hx (by omega) (by omega), inb_of (V_iff.2 (by omega)) hx (by omega) (by omega), ?_, ?_⟩
      · rw [w64 (by omega) (by omega), w64 (by omega) (by omega)]
        exact decide_eq_false (by omega)
      · rw [w64 (n := (a + b) / 2 - a) (by omega) (by omega), w64 (by omega) (by omega), w64 (by omega) (by omega)]
        exact decide_eq_false (by omega)
  obtain ⟨l, u, h1, h2, h3, h4, h5⟩ := H
  have h1a := congrArg (fun r => r.1) h1
  rcases M with ⟨m1, m2⟩ | ⟨p, q, m1, m2, m3, m4, m5⟩
  · rcases S with ⟨s1, s2⟩ | ⟨m, s1, s2, s3, s4, s5⟩ <;> rcases h4 with e4 | e4 <;> rcases h5 with e5 | e5 <;> subst e4 <;> subst e5 <;> simp only [*, bne_self_eq_false, beq_self_eq_true, cond_true, cond_false, Bool.not_true, cond_same] <;> simp [cond_same, m2]
  · rcases S with ⟨s1, s2⟩ | ⟨m, s1, s2, s3, s4, s5⟩ <;> rcases h4 with e4 | e4 <;> rcases h5 with e5 | e5 <;> subst e4 <;> subst e5 <;> rcases m4 with f4 | f4 <;> rcases m5 with f5 | f5 <;> subst f4 <;> subst f5 <;> simp only [*, bne_self_eq_false, beq_self_eq_true, cond_true, cond_false, Bool.not_true, cond_same] <;> simp [cond_same]
theorem culetlaw27_IntervalSets.calls (a0_0 : Int) (a0_1 : Int) (a1_0 : Int) (a1_1 : Int) (h : culetlaw27_IntervalSets a0_0 a0_1 a1_0 a1_1 = true) (w : World) (ht : TabOk w) : Calls Tryd.prog 4 ⟨[.agg ⟨[.int .i64 a0_0, .int .i64 a0_1]⟩, .agg ⟨[.int .i64 a1_0, .int .i64 a1_1]⟩]⟩ w fun e w' => e = .returned (.bool true) ∧ Below w.heap.size w w' := by
  refine calls_run (E := ⟨[(9, culetlaw27_awake.sp), (9, culetlaw27_awake.sp), (20, culetref27_Valid.sp culetref27_Valid), (21, interval_Split.sp interval_Split), (22, interval_Inside.sp interval_Inside), (23, interval_Hull.sp interval_Hull), (24, interval_Meet.sp interval_Meet)], []⟩) (L := []) ⟨(specs_cons culetlaw27_awake.ok (specs_cons culetlaw27_awake.ok (specs_cons culetref27_Valid.ok (specs_cons interval_Split.ok (specs_cons interval_Inside.ok (specs_cons interval_Hull.ok (specs_cons interval_Meet.ok specs_nil))))))), inl_nil, mixed_ok⟩ 40 Tryd.func4 (by decide) rfl no_loops (vs := [.agg ⟨[.int .i64 a0_0, .int .i64 a0_1]⟩, .agg ⟨[.int .i64 a1_0, .int .i64 a1_1]⟩]) (v := .bool true) ?_ (by simp [okV, Nat.blt]) (clo_spec 8 _ rfl) w ht
  refine (culetlaw27_IntervalSets.run culetref27_Valid interval_Split interval_Inside interval_Hull interval_Meet a0_0 a0_1 a1_0 a1_1).trans ?_
  rw [culetlaw27_IntervalSets.nat]
  have h4 : culetlaw27_IntervalSets.K culetref27_Valid interval_Split interval_Inside interval_Hull interval_Meet a0_0 a0_1 a1_0 a1_1 id = true := h
  rw [h4]

end Go.Proofs.YtpghmdjjkpjnfaaDoor.G
